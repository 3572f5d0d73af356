/- Worlds of stations as plain data and in memory; walks: within to take. Conditions: as each theorem says. -/
import Derived.Test.YtjbphojecieloaaTy
namespace Wl
structure Mail where
  id : Int
  kind : Int
  fr : Int
  to : Int
  num : Int
  text : ByteArray
structure Talk where
  said : List ByteArray
  heard : Int
  known : Int
  due : Int
structure Wd where
  st : Nat
  wait : Int
  tick : Int
  last : Int
  tk : Nat → Nat → Talk
  mails : List Mail
structure Step where
  kind : Int
  a : Int
  b : Int
  n : Int
  text : ByteArray
def within (a lo hi : Int) : Bool := decide (lo ≤ a) && decide (a ≤ hi)
def noTalk : Talk := ⟨[], 0, 0, 0⟩
def newW (st : Nat) (wait : Int) : Wd := ⟨st, wait, 0, 0, fun _ _ => noTalk, []⟩
/-- a pair of two stations -/
def isPair (w : Wd) (a b : Int) : Bool := decide (0 ≤ a) && decide (a < w.st) && decide (0 ≤ b) && decide (b < w.st) && decide (a ≠ b)
def setT (w : Wd) (a b : Nat) (t : Talk) : Wd := { w with tk := fun x y => if x = a ∧ y = b then t else w.tk x y }
def room (w : Wd) : Nat := 200 - w.mails.length
def stamp : Int → List Mail → List Mail
  | _, [] => []
  | k, m :: r => { m with id := k + 1 } :: stamp (k + 1) r
def putW (w : Wd) (l : List Mail) : Wd := { w with mails := w.mails ++ stamp w.last (l.take (room w)), last := w.last + (l.take (room w)).length }
def opn (t : Talk) : Int := t.said.length - t.known
def sayW (w : Wd) (s : Step) : Wd × Int :=
  if isPair w s.a s.b = false ∨ s.text.size > 40 then (w, 1)
  else if 60 ≤ (w.tk s.a.toNat s.b.toNat).said.length ∨ room w = 0 then (w, 2)
  else (putW (setT w s.a.toNat s.b.toNat { w.tk s.a.toNat s.b.toNat with said := (w.tk s.a.toNat s.b.toNat).said ++ [s.text], due := if opn (w.tk s.a.toNat s.b.toNat) = 0 then w.tick + w.wait else (w.tk s.a.toNat s.b.toNat).due })
      [⟨0, 1, s.a, s.b, (w.tk s.a.toNat s.b.toNat).said.length + 1, s.text⟩], 0)
/-- the words of a talk that are sent again -/
def resend (a b : Nat) (t : Talk) : List Mail := ((List.range t.said.length).drop t.known.toNat).map fun (n : Nat) => ⟨0, 1, a, b, (n : Int) + 1, t.said.getD n ByteArray.empty⟩
def timeP (w : Wd) (a b : Nat) : Wd :=
  if a = b ∨ opn (w.tk a b) = 0 ∨ (w.tk a b).due > w.tick then w
  else setT (putW w (resend a b (w.tk a b))) a b { w.tk a b with due := w.tick + w.wait }
def timeGo (w : Wd) : List (Nat × Nat) → Wd
  | [] => w | (a, b) :: r => timeGo (timeP w a b) r
/-- all pairs, in the order of two loops -/
def grid (n : Nat) : List (Nat × Nat) := (List.range n).flatMap fun a => (List.range n).map fun b => (a, b)
def timeW (w : Wd) (n : Int) : Wd × Int := if within n w.tick 1048576 = false then (w, 1) else (timeGo { w with tick := n } (grid w.st), 0)
def findM (w : Wd) (id : Int) : Option Nat := w.mails.findIdx? fun m => m.id == id
def arrive (w : Wd) (m : Mail) : Wd :=
  if m.kind = 1 then
    putW (if m.num = (w.tk m.fr.toNat m.to.toNat).heard + 1 then setT w m.fr.toNat m.to.toNat { w.tk m.fr.toNat m.to.toNat with heard := (w.tk m.fr.toNat m.to.toNat).heard + 1 } else w)
      [⟨0, 2, m.to, m.fr, (if m.num = (w.tk m.fr.toNat m.to.toNat).heard + 1 then (w.tk m.fr.toNat m.to.toNat).heard + 1 else (w.tk m.fr.toNat m.to.toNat).heard) + 1, ByteArray.empty⟩]
  else if m.num - 1 > (w.tk m.to.toNat m.fr.toNat).known then setT w m.to.toNat m.fr.toNat { w.tk m.to.toNat m.fr.toNat with known := m.num - 1, due := w.tick + w.wait } else w
def deliverW (w : Wd) (n : Int) : Wd × Int :=
  match findM w n with
  | none => (w, 5)
  | some i => match w.mails[i]? with
    | none => (w, 5)
    | some m => (arrive { w with mails := w.mails.eraseIdx i } m, 0)
def loseW (w : Wd) (n : Int) : Wd × Int :=
  match findM w n with
  | none => (w, 5)
  | some i => ({ w with mails := w.mails.eraseIdx i }, 0)
def doubleW (w : Wd) (n : Int) : Wd × Int :=
  match findM w n with
  | none => (w, 5)
  | some i => if room w = 0 then (w, 2) else match w.mails[i]? with
    | none => (w, 5)
    | some m => (putW w [m], 0)
def crashW (w : Wd) (a : Int) : Wd × Int :=
  if within a 0 (w.st - 1) = false then (w, 1)
  else ({ w with tk := fun x y => if x = a.toNat then { w.tk x y with known := 0, due := w.tick } else w.tk x y }, 0)
/-- a step without the fields of other kinds -/
def lean (s : Step) : Bool :=
  (s.kind == 1 && s.n == 0) || ((s.kind == 2 || s.kind == 3 || s.kind == 4 || s.kind == 5) && s.a == 0 && s.b == 0 && s.text.toList == []) || (s.kind == 6 && s.b == 0 && s.n == 0 && s.text.toList == [])
def doW (w : Wd) (s : Step) : Wd × Int :=
  if lean s = false then (w, 1)
  else if s.kind = 1 then sayW w s
  else if s.kind = 2 then timeW w s.n
  else if s.kind = 3 then deliverW w s.n
  else if s.kind = 4 then loseW w s.n
  else if s.kind = 5 then doubleW w s.n
  else crashW w s.a
end Wl

namespace Go.AM
open Go.Proofs Wl
set_option maxRecDepth 10000
abbrev encMail (m : Mail) : AV := .agg [iv .i64 m.id, iv .i64 m.kind, iv .i64 m.fr, iv .i64 m.to, iv .i64 m.num, sv m.text]
abbrev encStep (s : Step) : AV := .agg [iv .i64 s.kind, iv .i64 s.a, iv .i64 s.b, iv .i64 s.n, sv s.text]
abbrev cellsStep (s : Step) : AObj := .cells [iv .i64 s.kind, iv .i64 s.a, iv .i64 s.b, iv .i64 s.n, sv s.text]
abbrev cellsMail (m : Mail) : AObj := .cells [iv .i64 m.id, iv .i64 m.kind, iv .i64 m.fr, iv .i64 m.to, iv .i64 m.num, sv m.text]
def keyV (a b : Int) : Value := .agg #[.int .i64 a, .int .i64 b]
/-- the objects of a world -/
inductive Sl where
  | p | map | q | nm (a b : Nat) | sm (a b : Nat)
def Sl.ok (st : Nat) : Sl → Prop
  | .nm a b | .sm a b => a < st ∧ b < st ∧ a ≠ b
  | _ => True
def pairs (n : Nat) : List (Nat × Nat) := (grid n).filter fun ab => decide (ab.1 ≠ ab.2)
def mapEs (N : Sl → Nat) (st : Nat) : List (Value × AV) := (pairs st).map fun ab => (keyV ab.1 ab.2, .ptr (N (.nm ab.1 ab.2)) 0)
abbrev cellsTalk (sm : Nat) (t : Talk) : AObj := .cells [acV 1 sm (t.said.map sv), iv .i64 t.heard, iv .i64 t.known, iv .i64 t.due]
/-- the row of mails: nil, or what lies in a row that may be longer -/
def MailsAt (q : Nat) (l : List Mail) (V : AV) (h : AHeap) : Prop :=
  (V = .fslc true true 0 [] ∧ l = [] ∧ h q = none) ∨ ∃ extra : List AV, V = .slc q 0 l.length 6 ∧ h q = some (.cells (flat (l.map encMail) ++ extra)) ∧ extra.length % 6 = 0
structure WRep (w : Wd) (N : Sl → Nat) (V : AV) (h : AHeap) : Prop where
  hd : h (N .p) = some (.cells [iv .i64 w.st, iv .i64 w.wait, iv .i64 w.tick, iv .i64 w.last, .map (N .map), V])
  ml : MailsAt (N .q) w.mails V h
  mp : h (N .map) = some (.map (mapEs N w.st))
  tks : ∀ a b, a < w.st → b < w.st → a ≠ b → h (N (.nm a b)) = some (cellsTalk (N (.sm a b)) (w.tk a b))
  sds : ∀ a b, a < w.st → b < w.st → a ≠ b → h (N (.sm a b)) = acO ((w.tk a b).said.map sv)
  inj : ∀ s s', s.ok w.st → s'.ok w.st → N s = N s' → s = s'
def own (st : Nat) (N : Sl → Nat) (k : Nat) : Prop := ∃ s : Sl, s.ok st ∧ N s = k
theorem WRep.congr {w : Wd} {N : Sl → Nat} {V : AV} {h h' : AHeap} (R : WRep w N V h) (hk : ∀ k, own w.st N k → h' k = h k) : WRep w N V h' := by
  have o : ∀ s : Sl, s.ok w.st → h' (N s) = h (N s) := fun s hs => hk _ ⟨s, hs, rfl⟩
  refine ⟨by rw [o .p trivial]; exact R.hd, ?_, by rw [o .map trivial]; exact R.mp, fun a b h1 h2 h3 => by rw [o (.nm a b) ⟨h1, h2, h3⟩]; exact R.tks a b h1 h2 h3, fun a b h1 h2 h3 => by rw [o (.sm a b) ⟨h1, h2, h3⟩]; exact R.sds a b h1 h2 h3, R.inj⟩
  rcases R.ml with ⟨e1, e2, e3⟩ | ⟨x, e1, e2, e3⟩
  · exact .inl ⟨e1, e2, by rw [o .q trivial]; exact e3⟩
  · exact .inr ⟨x, e1, by rw [o .q trivial]; exact e2, e3⟩
theorem mem_grid {n a b : Nat} : (a, b) ∈ grid n ↔ a < n ∧ b < n := by
  simp only [grid, List.mem_flatMap, List.mem_range, List.mem_map, Prod.mk.injEq]
  constructor
  · rintro ⟨x, hx, y, hy, rfl, rfl⟩; exact ⟨hx, hy⟩
  · rintro ⟨h1, h2⟩; exact ⟨a, h1, b, h2, rfl, rfl⟩
theorem mem_pairs {n a b : Nat} : (a, b) ∈ pairs n ↔ a < n ∧ b < n ∧ a ≠ b := by
  simp only [pairs, List.mem_filter, mem_grid, decide_eq_true_eq]
  constructor
  · rintro ⟨⟨h1, h2⟩, h3⟩; exact ⟨h1, h2, h3⟩
  · rintro ⟨h1, h2, h3⟩; exact ⟨⟨h1, h2⟩, h3⟩
theorem keyOk63 (a b : Int) : keyOk Try.prog 63 (.agg [iv .i64 a, iv .i64 b]) = some (keyV a b) := by
  have h : (match Try.prog.underlying 63 with | some (.struct fs) => fldKey Try.prog 2 fs.toList | _ => false) = true := by kernel_rfl
  unfold keyOk
  split at h
  · rename_i fs hu
    simp [hu, cVals, h, keyV]
  · cases h
theorem keyEq63 (a b c d : Int) : keyEqA Try.prog 63 (.agg [iv .i64 a, iv .i64 b]) (keyV c d) = some (a == c && b == d) := by
  have h1 : eqPlan Try.prog 63 = some [(0, .int), (1, .int)] := by kernel_rfl
  have hb : ∀ p q : Bool, (match some p with | some true => (match some q with | some true => some true | some false => some false | none => none) | some false => some false | none => none) = some (p && q) := by decide
  show aggEq Try.prog 63 [iv .i64 a, iv .i64 b] [iv .i64 c, iv .i64 d] = _
  rw [aggEq_plan h1]
  exact hb (a == c) (b == d)
theorem find_pairs (N : Sl → Nat) (a b : Int) : ∀ (l : List (Nat × Nat)) (i : Nat), ∃ r, findA Try.prog 63 (.agg [iv .i64 a, iv .i64 b]) (l.map fun ab => (keyV ab.1 ab.2, AV.ptr (N (.nm ab.1 ab.2)) 0)) i = some r ∧
    ((∃ x y : Nat, (x, y) ∈ l ∧ a = x ∧ b = y ∧ ∃ j, r = some (j, .ptr (N (.nm x y)) 0)) ∨ (r = none ∧ ∀ x y : Nat, (x, y) ∈ l → ¬ (a = x ∧ b = y)))
  | [], i => ⟨none, rfl, .inr ⟨rfl, fun _ _ h => by cases h⟩⟩ | (x, y) :: l, i => by
    simp only [List.map_cons, findA, keyEq63]
    by_cases hc : a = x ∧ b = y
    · have : (a == (x : Int) && b == (y : Int)) = true := by simp [hc.1, hc.2]
      rw [this]
      exact ⟨_, rfl, .inl ⟨x, y, by simp, hc.1, hc.2, i, rfl⟩⟩
    · have : (a == (x : Int) && b == (y : Int)) = false := by
        rw [Bool.and_eq_false_iff, beq_eq_false_iff_ne, beq_eq_false_iff_ne]
        by_cases h1 : a = x
        · exact .inr fun h2 => hc ⟨h1, h2⟩
        · exact .inl h1
      rw [this]
      obtain ⟨r, h1, h2⟩ := find_pairs N a b l (i + 1)
      refine ⟨r, h1, ?_⟩
      rcases h2 with ⟨x', y', hm, e1, e2, e3⟩ | ⟨e1, e2⟩
      · exact .inl ⟨x', y', by simp [hm], e1, e2, e3⟩
      · refine .inr ⟨e1, fun x' y' hm => ?_⟩
        rcases List.mem_cons.1 hm with h | h
        · cases h; exact hc
        · exact e2 x' y' h
/-- a talk, looked up -/
theorem look_talk {N : Sl → Nat} {st : Nat} {h : AHeap} (hm : h (N .map) = some (.map (mapEs N st))) (a b : Int) :
    (∃ x y : Nat, x < st ∧ y < st ∧ x ≠ y ∧ a = x ∧ b = y ∧ aLookup Try.prog 56 (.map (N .map)) (.agg [iv .i64 a, iv .i64 b]) false h = some (.ptr (N (.nm x y)) 0)) ∨
    ((∀ x y : Nat, x < st → y < st → x ≠ y → ¬ (a = x ∧ b = y)) ∧ aLookup Try.prog 56 (.map (N .map)) (.agg [iv .i64 a, iv .i64 b]) false h = some (.c (.pointer none))) := by
  obtain ⟨r, h1, h2⟩ := find_pairs N a b (pairs st) 0
  have hz : zerOf Try.prog 59 = some (.c (.pointer none)) := by kernel_rfl
  have hl : aLookup Try.prog 56 (.map (N .map)) (.agg [iv .i64 a, iv .i64 b]) false h = (resF Try.prog 59 r).map (pairF false) := by
    unfold aLookup
    rw [mapTys56]
    simp only [keyOk63, hm]
    rw [show mapEs N st = (pairs st).map fun ab => (keyV ab.1 ab.2, AV.ptr (N (.nm ab.1 ab.2)) 0) from rfl, h1]
  rcases h2 with ⟨x, y, hm', rfl, rfl, j, rfl⟩ | ⟨rfl, h2⟩
  · obtain ⟨p1, p2, p3⟩ := mem_pairs.1 hm'
    exact .inl ⟨x, y, p1, p2, p3, rfl, rfl, by rw [hl]; rfl⟩
  · exact .inr ⟨fun x y p1 p2 p3 => h2 x y (mem_pairs.2 ⟨p1, p2, p3⟩), by rw [hl]; simp [resF, hz, pairF]⟩
end Go.AM

namespace Go.AM
open Go.Proofs Wl
set_option maxRecDepth 10000
set_option maxHeartbeats 4000000
theorem mixed : Try.prog.follows .mixedOrders = true := by kernel_rfl
theorem within_spec (a lo hi : Int) : APure Try.prog 25 [iv .i64 a, iv .i64 lo, iv .i64 hi] (bv (within a lo hi)) := by
  intro h n
  refine ACalls.pure (ACalls.entry (by kernel_rfl) fun hb _ => calls_of Try.func25 rfl (by kernel_rfl) (by simp [Try.ntmps25]) ?_)
  by_cases h1 : lo ≤ a <;> by_cases h2 : a ≤ hi
  · have : within a lo hi = true := by simp [within, h1, h2]
    rw [this]; clear this
    repeat' (first | (refine ac_seq_h fun K hK => ?_) | (refine ac_region_h fun K hK => ?_; simp (disch := omega) [go_sem, *, Try.ntmps25]) | (refine ac_draw_h mixed (by kernel_rfl) fun K hK => ?_; simp (disch := omega) [go_sem, *, wrap64_id, upd_ne, mk3_true, flatten_replicate_one, stepK_if, ilt_true, ilt_false, ile_true, ile_false, Try.ntmps25]) | (apply Hide.out hK; clear hK K; try with_reducible dsimp only [thenA]) | (apply Hide.out ht; clear ht hf Kt Kf) | (apply Hide.out hf; clear ht hf Kt Kf) | (clear hK K; apply Hide.out hK; clear hK K; try with_reducible dsimp only [thenA]) | (clear hK K; clear hK K; apply Hide.out hK; clear hK K; try with_reducible dsimp only [thenA]) | (refine ac_block ?_) | (refine ac_skip ?_; simp only [thenA, blockA]) | (refine ac_exit ?_; simp only [thenA, blockA, if_true, if_false, Nat.reduceEqDiff]) | (with_reducible show nextK _ _ _ _ _ _ _; simp (disch := omega) [go_sem, *, wrap64_id, upd_ne, mk3_true, flatten_replicate_one, stepK_if, ilt_true, ilt_false, ile_true, ile_false, Try.ntmps25]) | (refine wantK_split (fun hc => ?_) (fun hc => ?_) <;> (try simp only [Bool.not_eq_true', Bool.not_eq_false', Bool.not_eq_eq_eq_not, Bool.not_true, Bool.not_false, decide_eq_true_eq, decide_eq_false_iff_not, Int.not_lt, Int.not_le] at hc) <;> (try (exfalso; omega)) <;> (try simp (disch := omega) [go_sem, *, wrap64_id, upd_ne, mk3_true, flatten_replicate_one, stepK_if, ilt_true, ilt_false, ile_true, ile_false, Try.ntmps25])) | (refine ac_cond_h fun Kt Kf ht hf => ?_; simp (disch := omega) [go_sem, *, wrap64_id, upd_ne, mk3_true, flatten_replicate_one, stepK_if, ilt_true, ilt_false, ile_true, ile_false, Try.ntmps25]; try (refine ⟨fun hc => ?_, fun hc => ?_⟩ <;> try (exfalso; omega))))
    (refine ac_ret ?_; try dsimp only [thenA, blockA]; refine ⟨by simp, _, (by first | rfl | (simp (disch := omega) [go_sem, upd_ne] <;> rfl)), ?_⟩; refine ret_id ⟨fun k hk => (by first | rfl | (repeat rw [upd_ne _ _ _ _ (by omega)])), (by simp [go_sem, below]), (by simp [go_sem] <;> omega), by simp, by simp⟩)
  · have : within a lo hi = false := by simp [within, h1, h2]
    rw [this]; clear this
    repeat' (first | (refine ac_seq_h fun K hK => ?_) | (refine ac_region_h fun K hK => ?_; simp (disch := omega) [go_sem, *, Try.ntmps25]) | (refine ac_draw_h mixed (by kernel_rfl) fun K hK => ?_; simp (disch := omega) [go_sem, *, wrap64_id, upd_ne, mk3_true, flatten_replicate_one, stepK_if, ilt_true, ilt_false, ile_true, ile_false, Try.ntmps25]) | (apply Hide.out hK; clear hK K; try with_reducible dsimp only [thenA]) | (apply Hide.out ht; clear ht hf Kt Kf) | (apply Hide.out hf; clear ht hf Kt Kf) | (clear hK K; apply Hide.out hK; clear hK K; try with_reducible dsimp only [thenA]) | (clear hK K; clear hK K; apply Hide.out hK; clear hK K; try with_reducible dsimp only [thenA]) | (refine ac_block ?_) | (refine ac_skip ?_; simp only [thenA, blockA]) | (refine ac_exit ?_; simp only [thenA, blockA, if_true, if_false, Nat.reduceEqDiff]) | (with_reducible show nextK _ _ _ _ _ _ _; simp (disch := omega) [go_sem, *, wrap64_id, upd_ne, mk3_true, flatten_replicate_one, stepK_if, ilt_true, ilt_false, ile_true, ile_false, Try.ntmps25]) | (refine wantK_split (fun hc => ?_) (fun hc => ?_) <;> (try simp only [Bool.not_eq_true', Bool.not_eq_false', Bool.not_eq_eq_eq_not, Bool.not_true, Bool.not_false, decide_eq_true_eq, decide_eq_false_iff_not, Int.not_lt, Int.not_le] at hc) <;> (try (exfalso; omega)) <;> (try simp (disch := omega) [go_sem, *, wrap64_id, upd_ne, mk3_true, flatten_replicate_one, stepK_if, ilt_true, ilt_false, ile_true, ile_false, Try.ntmps25])) | (refine ac_cond_h fun Kt Kf ht hf => ?_; simp (disch := omega) [go_sem, *, wrap64_id, upd_ne, mk3_true, flatten_replicate_one, stepK_if, ilt_true, ilt_false, ile_true, ile_false, Try.ntmps25]; try (refine ⟨fun hc => ?_, fun hc => ?_⟩ <;> try (exfalso; omega))))
    (refine ac_ret ?_; try dsimp only [thenA, blockA]; refine ⟨by simp, _, (by first | rfl | (simp (disch := omega) [go_sem, upd_ne] <;> rfl)), ?_⟩; refine ret_id ⟨fun k hk => (by first | rfl | (repeat rw [upd_ne _ _ _ _ (by omega)])), (by simp [go_sem, below]), (by simp [go_sem] <;> omega), by simp, by simp⟩)
  · have : within a lo hi = false := by simp [within, h1]
    rw [this]; clear this
    repeat' (first | (refine ac_seq_h fun K hK => ?_) | (refine ac_region_h fun K hK => ?_; simp (disch := omega) [go_sem, *, Try.ntmps25]) | (refine ac_draw_h mixed (by kernel_rfl) fun K hK => ?_; simp (disch := omega) [go_sem, *, wrap64_id, upd_ne, mk3_true, flatten_replicate_one, stepK_if, ilt_true, ilt_false, ile_true, ile_false, Try.ntmps25]) | (apply Hide.out hK; clear hK K; try with_reducible dsimp only [thenA]) | (apply Hide.out ht; clear ht hf Kt Kf) | (apply Hide.out hf; clear ht hf Kt Kf) | (clear hK K; apply Hide.out hK; clear hK K; try with_reducible dsimp only [thenA]) | (clear hK K; clear hK K; apply Hide.out hK; clear hK K; try with_reducible dsimp only [thenA]) | (refine ac_block ?_) | (refine ac_skip ?_; simp only [thenA, blockA]) | (refine ac_exit ?_; simp only [thenA, blockA, if_true, if_false, Nat.reduceEqDiff]) | (with_reducible show nextK _ _ _ _ _ _ _; simp (disch := omega) [go_sem, *, wrap64_id, upd_ne, mk3_true, flatten_replicate_one, stepK_if, ilt_true, ilt_false, ile_true, ile_false, Try.ntmps25]) | (refine wantK_split (fun hc => ?_) (fun hc => ?_) <;> (try simp only [Bool.not_eq_true', Bool.not_eq_false', Bool.not_eq_eq_eq_not, Bool.not_true, Bool.not_false, decide_eq_true_eq, decide_eq_false_iff_not, Int.not_lt, Int.not_le] at hc) <;> (try (exfalso; omega)) <;> (try simp (disch := omega) [go_sem, *, wrap64_id, upd_ne, mk3_true, flatten_replicate_one, stepK_if, ilt_true, ilt_false, ile_true, ile_false, Try.ntmps25])) | (refine ac_cond_h fun Kt Kf ht hf => ?_; simp (disch := omega) [go_sem, *, wrap64_id, upd_ne, mk3_true, flatten_replicate_one, stepK_if, ilt_true, ilt_false, ile_true, ile_false, Try.ntmps25]; try (refine ⟨fun hc => ?_, fun hc => ?_⟩ <;> try (exfalso; omega))))
    (refine ac_ret ?_; try dsimp only [thenA, blockA]; refine ⟨by simp, _, (by first | rfl | (simp (disch := omega) [go_sem, upd_ne] <;> rfl)), ?_⟩; refine ret_id ⟨fun k hk => (by first | rfl | (repeat rw [upd_ne _ _ _ _ (by omega)])), (by simp [go_sem, below]), (by simp [go_sem] <;> omega), by simp, by simp⟩)
  · have : within a lo hi = false := by simp [within, h1]
    rw [this]; clear this
    repeat' (first | (refine ac_seq_h fun K hK => ?_) | (refine ac_region_h fun K hK => ?_; simp (disch := omega) [go_sem, *, Try.ntmps25]) | (refine ac_draw_h mixed (by kernel_rfl) fun K hK => ?_; simp (disch := omega) [go_sem, *, wrap64_id, upd_ne, mk3_true, flatten_replicate_one, stepK_if, ilt_true, ilt_false, ile_true, ile_false, Try.ntmps25]) | (apply Hide.out hK; clear hK K; try with_reducible dsimp only [thenA]) | (apply Hide.out ht; clear ht hf Kt Kf) | (apply Hide.out hf; clear ht hf Kt Kf) | (clear hK K; apply Hide.out hK; clear hK K; try with_reducible dsimp only [thenA]) | (clear hK K; clear hK K; apply Hide.out hK; clear hK K; try with_reducible dsimp only [thenA]) | (refine ac_block ?_) | (refine ac_skip ?_; simp only [thenA, blockA]) | (refine ac_exit ?_; simp only [thenA, blockA, if_true, if_false, Nat.reduceEqDiff]) | (with_reducible show nextK _ _ _ _ _ _ _; simp (disch := omega) [go_sem, *, wrap64_id, upd_ne, mk3_true, flatten_replicate_one, stepK_if, ilt_true, ilt_false, ile_true, ile_false, Try.ntmps25]) | (refine wantK_split (fun hc => ?_) (fun hc => ?_) <;> (try simp only [Bool.not_eq_true', Bool.not_eq_false', Bool.not_eq_eq_eq_not, Bool.not_true, Bool.not_false, decide_eq_true_eq, decide_eq_false_iff_not, Int.not_lt, Int.not_le] at hc) <;> (try (exfalso; omega)) <;> (try simp (disch := omega) [go_sem, *, wrap64_id, upd_ne, mk3_true, flatten_replicate_one, stepK_if, ilt_true, ilt_false, ile_true, ile_false, Try.ntmps25])) | (refine ac_cond_h fun Kt Kf ht hf => ?_; simp (disch := omega) [go_sem, *, wrap64_id, upd_ne, mk3_true, flatten_replicate_one, stepK_if, ilt_true, ilt_false, ile_true, ile_false, Try.ntmps25]; try (refine ⟨fun hc => ?_, fun hc => ?_⟩ <;> try (exfalso; omega))))
    (refine ac_ret ?_; try dsimp only [thenA, blockA]; refine ⟨by simp, _, (by first | rfl | (simp (disch := omega) [go_sem, upd_ne] <;> rfl)), ?_⟩; refine ret_id ⟨fun k hk => (by first | rfl | (repeat rw [upd_ne _ _ _ _ (by omega)])), (by simp [go_sem, below]), (by simp [go_sem] <;> omega), by simp, by simp⟩)
theorem rest_num (s : Step) : APure Try.prog 47 [encStep s] (encStep ⟨s.kind, s.a, s.b, 0, s.text⟩) := by
  intro h n
  refine ACalls.pure (ACalls.entry (by kernel_rfl) fun hb _ => calls_of Try.func47 rfl (by kernel_rfl) (by simp [Try.ntmps47]) ?_)
  repeat' (first | (refine ac_seq_h fun K hK => ?_) | (refine ac_region_h fun K hK => ?_; simp (disch := omega) [go_sem, *, upd_ne, Try.ntmps47]) | (refine ac_draw_h mixed (by kernel_rfl) fun K hK => ?_; simp (disch := omega) [go_sem, *, wrap64_id, upd_ne, mk3_true, flatten_replicate_one, stepK_if, ilt_true, ilt_false, ile_true, ile_false, Try.ntmps47]) | (apply Hide.out hK; clear hK K; try with_reducible dsimp only [thenA]) | (apply Hide.out ht; clear ht hf Kt Kf) | (apply Hide.out hf; clear ht hf Kt Kf) | (clear hK K; apply Hide.out hK; clear hK K; try with_reducible dsimp only [thenA]) | (clear hK K; clear hK K; apply Hide.out hK; clear hK K; try with_reducible dsimp only [thenA]) | (refine ac_block ?_) | (refine ac_skip ?_; simp only [thenA, blockA]) | (refine ac_exit ?_; simp only [thenA, blockA, if_true, if_false, Nat.reduceEqDiff]) | (with_reducible show nextK _ _ _ _ _ _ _; simp (disch := omega) [go_sem, *, wrap64_id, upd_ne, mk3_true, flatten_replicate_one, stepK_if, ilt_true, ilt_false, ile_true, ile_false, Try.ntmps47]) | (refine wantK_split (fun hc => ?_) (fun hc => ?_) <;> (try simp only [Bool.not_eq_true', Bool.not_eq_false', Bool.not_eq_eq_eq_not, Bool.not_true, Bool.not_false, decide_eq_true_eq, decide_eq_false_iff_not, Int.not_lt, Int.not_le] at hc) <;> (try (exfalso; omega)) <;> (try simp (disch := omega) [go_sem, *, wrap64_id, upd_ne, mk3_true, flatten_replicate_one, stepK_if, ilt_true, ilt_false, ile_true, ile_false, Try.ntmps47])) | (refine ac_cond_h fun Kt Kf ht hf => ?_; simp (disch := omega) [go_sem, *, wrap64_id, upd_ne, mk3_true, flatten_replicate_one, stepK_if, ilt_true, ilt_false, ile_true, ile_false, Try.ntmps47]; try (refine ⟨fun hc => ?_, fun hc => ?_⟩ <;> try (exfalso; omega))))
  (refine ac_ret ?_; try dsimp only [thenA, blockA]; refine ⟨by simp, _, (by first | rfl | (simp (disch := omega) [go_sem] <;> rfl)), ?_⟩; refine ret_id ⟨fun k hk => (by first | rfl | (repeat rw [upd_ne _ _ _ _ (by omega)])), (by simp [go_sem, below, belowL]), (by simp [go_sem] <;> omega), by simp, by simp⟩)
theorem rest_say (s : Step) : APure Try.prog 49 [encStep s] (encStep ⟨s.kind, 0, 0, s.n, ByteArray.empty⟩) := by
  intro h n
  refine ACalls.pure (ACalls.entry (by kernel_rfl) fun hb _ => calls_of Try.func49 rfl (by kernel_rfl) (by simp [Try.ntmps49]) ?_)
  repeat' (first | (refine ac_seq_h fun K hK => ?_) | (refine ac_region_h fun K hK => ?_; simp (disch := omega) [go_sem, *, upd_ne, Try.ntmps49]) | (refine ac_draw_h mixed (by kernel_rfl) fun K hK => ?_; simp (disch := omega) [go_sem, *, wrap64_id, upd_ne, mk3_true, flatten_replicate_one, stepK_if, ilt_true, ilt_false, ile_true, ile_false, Try.ntmps49]) | (apply Hide.out hK; clear hK K; try with_reducible dsimp only [thenA]) | (apply Hide.out ht; clear ht hf Kt Kf) | (apply Hide.out hf; clear ht hf Kt Kf) | (clear hK K; apply Hide.out hK; clear hK K; try with_reducible dsimp only [thenA]) | (clear hK K; clear hK K; apply Hide.out hK; clear hK K; try with_reducible dsimp only [thenA]) | (refine ac_block ?_) | (refine ac_skip ?_; simp only [thenA, blockA]) | (refine ac_exit ?_; simp only [thenA, blockA, if_true, if_false, Nat.reduceEqDiff]) | (with_reducible show nextK _ _ _ _ _ _ _; simp (disch := omega) [go_sem, *, wrap64_id, upd_ne, mk3_true, flatten_replicate_one, stepK_if, ilt_true, ilt_false, ile_true, ile_false, Try.ntmps49]) | (refine wantK_split (fun hc => ?_) (fun hc => ?_) <;> (try simp only [Bool.not_eq_true', Bool.not_eq_false', Bool.not_eq_eq_eq_not, Bool.not_true, Bool.not_false, decide_eq_true_eq, decide_eq_false_iff_not, Int.not_lt, Int.not_le] at hc) <;> (try (exfalso; omega)) <;> (try simp (disch := omega) [go_sem, *, wrap64_id, upd_ne, mk3_true, flatten_replicate_one, stepK_if, ilt_true, ilt_false, ile_true, ile_false, Try.ntmps49])) | (refine ac_cond_h fun Kt Kf ht hf => ?_; simp (disch := omega) [go_sem, *, wrap64_id, upd_ne, mk3_true, flatten_replicate_one, stepK_if, ilt_true, ilt_false, ile_true, ile_false, Try.ntmps49]; try (refine ⟨fun hc => ?_, fun hc => ?_⟩ <;> try (exfalso; omega))))
  (refine ac_ret ?_; try dsimp only [thenA, blockA]; refine ⟨by simp, _, (by first | rfl | (simp (disch := omega) [go_sem] <;> rfl)), ?_⟩; refine ret_id ⟨fun k hk => (by first | rfl | (repeat rw [upd_ne _ _ _ _ (by omega)])), (by simp [go_sem, below, belowL]), (by simp [go_sem] <;> omega), by simp, by simp⟩)
theorem rest_crash (s : Step) : APure Try.prog 55 [encStep s] (encStep ⟨s.kind, 0, s.b, s.n, s.text⟩) := by
  intro h n
  refine ACalls.pure (ACalls.entry (by kernel_rfl) fun hb _ => calls_of Try.func55 rfl (by kernel_rfl) (by simp [Try.ntmps55]) ?_)
  repeat' (first | (refine ac_seq_h fun K hK => ?_) | (refine ac_region_h fun K hK => ?_; simp (disch := omega) [go_sem, *, upd_ne, Try.ntmps55]) | (refine ac_draw_h mixed (by kernel_rfl) fun K hK => ?_; simp (disch := omega) [go_sem, *, wrap64_id, upd_ne, mk3_true, flatten_replicate_one, stepK_if, ilt_true, ilt_false, ile_true, ile_false, Try.ntmps55]) | (apply Hide.out hK; clear hK K; try with_reducible dsimp only [thenA]) | (apply Hide.out ht; clear ht hf Kt Kf) | (apply Hide.out hf; clear ht hf Kt Kf) | (clear hK K; apply Hide.out hK; clear hK K; try with_reducible dsimp only [thenA]) | (clear hK K; clear hK K; apply Hide.out hK; clear hK K; try with_reducible dsimp only [thenA]) | (refine ac_block ?_) | (refine ac_skip ?_; simp only [thenA, blockA]) | (refine ac_exit ?_; simp only [thenA, blockA, if_true, if_false, Nat.reduceEqDiff]) | (with_reducible show nextK _ _ _ _ _ _ _; simp (disch := omega) [go_sem, *, wrap64_id, upd_ne, mk3_true, flatten_replicate_one, stepK_if, ilt_true, ilt_false, ile_true, ile_false, Try.ntmps55]) | (refine wantK_split (fun hc => ?_) (fun hc => ?_) <;> (try simp only [Bool.not_eq_true', Bool.not_eq_false', Bool.not_eq_eq_eq_not, Bool.not_true, Bool.not_false, decide_eq_true_eq, decide_eq_false_iff_not, Int.not_lt, Int.not_le] at hc) <;> (try (exfalso; omega)) <;> (try simp (disch := omega) [go_sem, *, wrap64_id, upd_ne, mk3_true, flatten_replicate_one, stepK_if, ilt_true, ilt_false, ile_true, ile_false, Try.ntmps55])) | (refine ac_cond_h fun Kt Kf ht hf => ?_; simp (disch := omega) [go_sem, *, wrap64_id, upd_ne, mk3_true, flatten_replicate_one, stepK_if, ilt_true, ilt_false, ile_true, ile_false, Try.ntmps55]; try (refine ⟨fun hc => ?_, fun hc => ?_⟩ <;> try (exfalso; omega))))
  (refine ac_ret ?_; try dsimp only [thenA, blockA]; refine ⟨by simp, _, (by first | rfl | (simp (disch := omega) [go_sem] <;> rfl)), ?_⟩; refine ret_id ⟨fun k hk => (by first | rfl | (repeat rw [upd_ne _ _ _ _ (by omega)])), (by simp [go_sem, below, belowL]), (by simp [go_sem] <;> omega), by simp, by simp⟩)
theorem room_at {w : Wd} {N : Sl → Nat} {V : AV} {h : AHeap} (R : WRep w N V h) (hl : w.mails.length ≤ 200) (n : Nat) : APureAt Try.prog 58 [.ptr (N .p) 0] h n (iv .i64 (room w)) := by
  refine ACalls.pure (ACalls.entry (by kernel_rfl) fun hb _ => calls_of Try.func58 rfl (by kernel_rfl) (by simp [Try.ntmps58]) ?_)
  have hp := R.hd
  have hr : (room w : Int) = 200 - w.mails.length := by simp only [room]; omega
  rw [hr]
  rcases R.ml with ⟨rfl, e2, _⟩ | ⟨x, rfl, e2, _⟩
  · rw [e2]
    clear e2 hr R
    repeat' (first | (refine ac_seq_h fun K hK => ?_) | (refine ac_region_h fun K hK => ?_; simp (disch := omega) [go_sem, *, wrap64_id, ilt_true, Try.ntmps58]) | (refine ac_draw_h mixed (by kernel_rfl) fun K hK => ?_; simp (disch := omega) [go_sem, *, wrap64_id, upd_ne, mk3_true, flatten_replicate_one, stepK_if, ilt_true, ilt_false, ile_true, ile_false, Try.ntmps58]) | (apply Hide.out hK; clear hK K; try with_reducible dsimp only [thenA]) | (apply Hide.out ht; clear ht hf Kt Kf) | (apply Hide.out hf; clear ht hf Kt Kf) | (clear hK K; apply Hide.out hK; clear hK K; try with_reducible dsimp only [thenA]) | (clear hK K; clear hK K; apply Hide.out hK; clear hK K; try with_reducible dsimp only [thenA]) | (refine ac_block ?_) | (refine ac_skip ?_; simp only [thenA, blockA]) | (refine ac_exit ?_; simp only [thenA, blockA, if_true, if_false, Nat.reduceEqDiff]) | (with_reducible show nextK _ _ _ _ _ _ _; simp (disch := omega) [go_sem, *, wrap64_id, upd_ne, mk3_true, flatten_replicate_one, stepK_if, ilt_true, ilt_false, ile_true, ile_false, Try.ntmps58]) | (refine wantK_split (fun hc => ?_) (fun hc => ?_) <;> (try simp only [Bool.not_eq_true', Bool.not_eq_false', Bool.not_eq_eq_eq_not, Bool.not_true, Bool.not_false, decide_eq_true_eq, decide_eq_false_iff_not, Int.not_lt, Int.not_le] at hc) <;> (try (exfalso; omega)) <;> (try simp (disch := omega) [go_sem, *, wrap64_id, upd_ne, mk3_true, flatten_replicate_one, stepK_if, ilt_true, ilt_false, ile_true, ile_false, Try.ntmps58])) | (refine ac_cond_h fun Kt Kf ht hf => ?_; simp (disch := omega) [go_sem, *, wrap64_id, upd_ne, mk3_true, flatten_replicate_one, stepK_if, ilt_true, ilt_false, ile_true, ile_false, Try.ntmps58]; try (refine ⟨fun hc => ?_, fun hc => ?_⟩ <;> try (exfalso; omega))))
    (refine ac_ret ?_; try dsimp only [thenA, blockA]; refine ⟨by simp, _, (by first | rfl | (simp (disch := omega) [go_sem, upd_ne] <;> rfl)), ?_⟩; refine ret_id ⟨fun k hk => (by first | rfl | (repeat rw [upd_ne _ _ _ _ (by omega)])), (by simp [go_sem, below]), (by simp [go_sem] <;> omega), by simp, by simp⟩)
  · clear e2 hr R
    generalize w.mails.length = L at *
    have hif : (if (L : Int) < 200 then 200 - (L : Int) else 0) = 200 - (L : Int) := by split <;> omega
    repeat' (first | (refine ac_seq_h fun K hK => ?_) | (refine ac_region_h fun K hK => ?_; simp (disch := omega) [go_sem, *, wrap64_id, Try.ntmps58]) | (refine ac_draw_h mixed (by kernel_rfl) fun K hK => ?_; simp (disch := omega) [go_sem, *, wrap64_id, upd_ne, mk3_true, flatten_replicate_one, stepK_if, ilt_true, ilt_false, ile_true, ile_false, Try.ntmps58]) | (apply Hide.out hK; clear hK K; try with_reducible dsimp only [thenA]) | (apply Hide.out ht; clear ht hf Kt Kf) | (apply Hide.out hf; clear ht hf Kt Kf) | (clear hK K; apply Hide.out hK; clear hK K; try with_reducible dsimp only [thenA]) | (clear hK K; clear hK K; apply Hide.out hK; clear hK K; try with_reducible dsimp only [thenA]) | (refine ac_block ?_) | (refine ac_skip ?_; simp only [thenA, blockA]) | (refine ac_exit ?_; simp only [thenA, blockA, if_true, if_false, Nat.reduceEqDiff]) | (with_reducible show nextK _ _ _ _ _ _ _; simp (disch := omega) [go_sem, *, wrap64_id, upd_ne, mk3_true, flatten_replicate_one, stepK_if, ilt_true, ilt_false, ile_true, ile_false, Try.ntmps58]) | (refine wantK_split (fun hc => ?_) (fun hc => ?_) <;> (try simp only [Bool.not_eq_true', Bool.not_eq_false', Bool.not_eq_eq_eq_not, Bool.not_true, Bool.not_false, decide_eq_true_eq, decide_eq_false_iff_not, Int.not_lt, Int.not_le] at hc) <;> (try (exfalso; omega)) <;> (try simp (disch := omega) [go_sem, *, wrap64_id, upd_ne, mk3_true, flatten_replicate_one, stepK_if, ilt_true, ilt_false, ile_true, ile_false, Try.ntmps58])) | (refine ac_cond_h fun Kt Kf ht hf => ?_; simp (disch := omega) [go_sem, *, wrap64_id, upd_ne, mk3_true, flatten_replicate_one, stepK_if, ilt_true, ilt_false, ile_true, ile_false, Try.ntmps58]; try (refine ⟨fun hc => ?_, fun hc => ?_⟩ <;> try (exfalso; omega))))
    (refine ac_ret ?_; try dsimp only [thenA, blockA]; refine ⟨by simp, _, (by first | rfl | (simp (disch := omega) [go_sem, upd_ne] <;> rfl)), ?_⟩; refine ret_id ⟨fun k hk => (by first | rfl | (repeat rw [upd_ne _ _ _ _ (by omega)])), (by simp [go_sem, below]), (by simp [go_sem] <;> omega), by simp, by simp⟩)
theorem open_at {t : Talk} {m sm : Nat} {h : AHeap} (hm : h m = some (cellsTalk sm t)) (hk0 : -1000 ≤ t.known) (hk1 : t.known ≤ 1000) (hl : t.said.length ≤ 1000) (n : Nat) : APureAt Try.prog 29 [.ptr m 0] h n (iv .i64 (opn t)) := by
  refine ACalls.pure (ACalls.entry (by kernel_rfl) fun hb _ => calls_of Try.func29 rfl (by kernel_rfl) (by simp [Try.ntmps29]) ?_)
  unfold opn
  by_cases h0 : t.said = []
  · simp only [cellsTalk, h0, List.map_nil, ac_nil] at hm
    rw [h0]
    clear h0
    repeat' (first | (refine ac_seq_h fun K hK => ?_) | (refine ac_region_h fun K hK => ?_; simp (disch := omega) [go_sem, *, Try.ntmps29]) | (refine ac_draw_h mixed (by kernel_rfl) fun K hK => ?_; simp (disch := omega) [go_sem, *, wrap64_id]) | (apply Hide.out hK; clear hK K; try with_reducible dsimp only [thenA]) | (apply Hide.out ht; clear ht hf Kt Kf) | (apply Hide.out hf; clear ht hf Kt Kf) | (clear hK K; apply Hide.out hK; clear hK K; try with_reducible dsimp only [thenA]) | (clear hK K; clear hK K; apply Hide.out hK; clear hK K; try with_reducible dsimp only [thenA]) | (refine ac_block ?_) | (refine ac_skip ?_; simp only [thenA, blockA]) | (refine ac_exit ?_; simp only [thenA, blockA, if_true, if_false, Nat.reduceEqDiff]) | (with_reducible show nextK _ _ _ _ _ _ _; simp (disch := omega) [go_sem, *, wrap64_id, upd_ne, mk3_true, flatten_replicate_one, stepK_if, ilt_true, ilt_false, ile_true, ile_false, Try.ntmps29]) | (refine wantK_split (fun hc => ?_) (fun hc => ?_) <;> (try simp only [Bool.not_eq_true', Bool.not_eq_false', Bool.not_eq_eq_eq_not, Bool.not_true, Bool.not_false, decide_eq_true_eq, decide_eq_false_iff_not, Int.not_lt, Int.not_le] at hc) <;> (try (exfalso; omega)) <;> (try simp (disch := omega) [go_sem, *, wrap64_id, upd_ne, mk3_true, flatten_replicate_one, stepK_if, ilt_true, ilt_false, ile_true, ile_false, Try.ntmps29])) | (refine ac_cond_h fun Kt Kf ht hf => ?_; simp (disch := omega) [go_sem, *, wrap64_id, upd_ne, mk3_true, flatten_replicate_one, stepK_if, ilt_true, ilt_false, ile_true, ile_false, Try.ntmps29]; try (refine ⟨fun hc => ?_, fun hc => ?_⟩ <;> try (exfalso; omega))))
    (refine ac_ret ?_; try dsimp only [thenA, blockA]; refine ⟨by simp, _, (by first | rfl | (simp (disch := omega) [go_sem, upd_ne] <;> rfl)), ?_⟩; refine ret_id ⟨fun k hk => (by first | rfl | (repeat rw [upd_ne _ _ _ _ (by omega)])), (by simp [go_sem, below]), (by simp [go_sem] <;> omega), by simp, by simp⟩)
  · have h0' : t.said.map sv ≠ [] := by simpa using h0
    simp only [cellsTalk, acV_ne h0', List.length_map] at hm
    clear h0 h0'
    generalize t.said.length = L at *
    repeat' (first | (refine ac_seq_h fun K hK => ?_) | (refine ac_region_h fun K hK => ?_; simp (disch := omega) [go_sem, *, Try.ntmps29]) | (refine ac_draw_h mixed (by kernel_rfl) fun K hK => ?_; simp (disch := omega) [go_sem, *, wrap64_id]) | (apply Hide.out hK; clear hK K; try with_reducible dsimp only [thenA]) | (apply Hide.out ht; clear ht hf Kt Kf) | (apply Hide.out hf; clear ht hf Kt Kf) | (clear hK K; apply Hide.out hK; clear hK K; try with_reducible dsimp only [thenA]) | (clear hK K; clear hK K; apply Hide.out hK; clear hK K; try with_reducible dsimp only [thenA]) | (refine ac_block ?_) | (refine ac_skip ?_; simp only [thenA, blockA]) | (refine ac_exit ?_; simp only [thenA, blockA, if_true, if_false, Nat.reduceEqDiff]) | (with_reducible show nextK _ _ _ _ _ _ _; simp (disch := omega) [go_sem, *, wrap64_id, upd_ne, mk3_true, flatten_replicate_one, stepK_if, ilt_true, ilt_false, ile_true, ile_false, Try.ntmps29]) | (refine wantK_split (fun hc => ?_) (fun hc => ?_) <;> (try simp only [Bool.not_eq_true', Bool.not_eq_false', Bool.not_eq_eq_eq_not, Bool.not_true, Bool.not_false, decide_eq_true_eq, decide_eq_false_iff_not, Int.not_lt, Int.not_le] at hc) <;> (try (exfalso; omega)) <;> (try simp (disch := omega) [go_sem, *, wrap64_id, upd_ne, mk3_true, flatten_replicate_one, stepK_if, ilt_true, ilt_false, ile_true, ile_false, Try.ntmps29])) | (refine ac_cond_h fun Kt Kf ht hf => ?_; simp (disch := omega) [go_sem, *, wrap64_id, upd_ne, mk3_true, flatten_replicate_one, stepK_if, ilt_true, ilt_false, ile_true, ile_false, Try.ntmps29]; try (refine ⟨fun hc => ?_, fun hc => ?_⟩ <;> try (exfalso; omega))))
    (refine ac_ret ?_; try dsimp only [thenA, blockA]; refine ⟨by simp, _, (by first | rfl | (simp (disch := omega) [go_sem, upd_ne] <;> rfl)), ?_⟩; refine ret_id ⟨fun k hk => (by first | rfl | (repeat rw [upd_ne _ _ _ _ (by omega)])), (by simp [go_sem, below]), (by simp [go_sem] <;> omega), by simp, by simp⟩)
theorem tick_at {w : Wd} {N : Sl → Nat} {V : AV} {h : AHeap} (R : WRep w N V h) (n : Nat) : APureAt Try.prog 42 [.ptr (N .p) 0] h n (iv .i64 w.tick) := by
  refine ACalls.pure (ACalls.entry (by kernel_rfl) fun hb _ => calls_of Try.func42 rfl (by kernel_rfl) (by simp [Try.ntmps42]) ?_)
  have hp := R.hd
  clear R
  repeat' (first | (refine ac_seq_h fun K hK => ?_) | (refine ac_region_h fun K hK => ?_; simp (disch := omega) [go_sem, *, Try.ntmps42]) | (refine ac_draw_h mixed (by kernel_rfl) fun K hK => ?_; simp (disch := omega) [go_sem, *, wrap64_id, upd_ne, mk3_true, flatten_replicate_one, stepK_if, ilt_true, ilt_false, ile_true, ile_false, Try.ntmps42]) | (apply Hide.out hK; clear hK K; try with_reducible dsimp only [thenA]) | (apply Hide.out ht; clear ht hf Kt Kf) | (apply Hide.out hf; clear ht hf Kt Kf) | (clear hK K; apply Hide.out hK; clear hK K; try with_reducible dsimp only [thenA]) | (clear hK K; clear hK K; apply Hide.out hK; clear hK K; try with_reducible dsimp only [thenA]) | (refine ac_block ?_) | (refine ac_skip ?_; simp only [thenA, blockA]) | (refine ac_exit ?_; simp only [thenA, blockA, if_true, if_false, Nat.reduceEqDiff]) | (with_reducible show nextK _ _ _ _ _ _ _; simp (disch := omega) [go_sem, *, wrap64_id, upd_ne, mk3_true, flatten_replicate_one, stepK_if, ilt_true, ilt_false, ile_true, ile_false, Try.ntmps42]) | (refine wantK_split (fun hc => ?_) (fun hc => ?_) <;> (try simp only [Bool.not_eq_true', Bool.not_eq_false', Bool.not_eq_eq_eq_not, Bool.not_true, Bool.not_false, decide_eq_true_eq, decide_eq_false_iff_not, Int.not_lt, Int.not_le] at hc) <;> (try (exfalso; omega)) <;> (try simp (disch := omega) [go_sem, *, wrap64_id, upd_ne, mk3_true, flatten_replicate_one, stepK_if, ilt_true, ilt_false, ile_true, ile_false, Try.ntmps42])) | (refine ac_cond_h fun Kt Kf ht hf => ?_; simp (disch := omega) [go_sem, *, wrap64_id, upd_ne, mk3_true, flatten_replicate_one, stepK_if, ilt_true, ilt_false, ile_true, ile_false, Try.ntmps42]; try (refine ⟨fun hc => ?_, fun hc => ?_⟩ <;> try (exfalso; omega))))
  (refine ac_ret ?_; try dsimp only [thenA, blockA]; refine ⟨by simp, _, (by first | rfl | (simp (disch := omega) [go_sem, upd_ne] <;> rfl)), ?_⟩; refine ret_id ⟨fun k hk => (by first | rfl | (repeat rw [upd_ne _ _ _ _ (by omega)])), (by simp [go_sem, below]), (by simp [go_sem] <;> omega), by simp, by simp⟩)
theorem clo_take (m : Mail) (id : Int) {b : Nat} {h : AHeap} (hb1 : h b = some (.cells [iv .i64 id])) (n : Nat) : APureAt Try.prog 63 [encMail m, .ptr b 0] h n (bv (m.id == id)) := by
  refine ACalls.pure (ACalls.entry (by kernel_rfl) fun hb _ => calls_of Try.func63 rfl (by kernel_rfl) (by simp [Try.ntmps63]) ?_)
  have hbn : b < n := by
    rcases Nat.lt_or_ge b n with h1 | h1
    · exact h1
    · rw [hb.none h1] at hb1; cases hb1
  repeat' (first | (refine ac_seq_h fun K hK => ?_) | (refine ac_region_h fun K hK => ?_; simp (disch := omega) [go_sem, *, upd_ne, Try.ntmps63]) | (refine ac_draw_h mixed (by kernel_rfl) fun K hK => ?_; simp (disch := omega) [go_sem, *, wrap64_id, upd_ne, mk3_true, flatten_replicate_one, stepK_if, ilt_true, ilt_false, ile_true, ile_false, Try.ntmps63]) | (apply Hide.out hK; clear hK K; try with_reducible dsimp only [thenA]) | (apply Hide.out ht; clear ht hf Kt Kf) | (apply Hide.out hf; clear ht hf Kt Kf) | (clear hK K; apply Hide.out hK; clear hK K; try with_reducible dsimp only [thenA]) | (clear hK K; clear hK K; apply Hide.out hK; clear hK K; try with_reducible dsimp only [thenA]) | (refine ac_block ?_) | (refine ac_skip ?_; simp only [thenA, blockA]) | (refine ac_exit ?_; simp only [thenA, blockA, if_true, if_false, Nat.reduceEqDiff]) | (with_reducible show nextK _ _ _ _ _ _ _; simp (disch := omega) [go_sem, *, wrap64_id, upd_ne, mk3_true, flatten_replicate_one, stepK_if, ilt_true, ilt_false, ile_true, ile_false, Try.ntmps63]) | (refine wantK_split (fun hc => ?_) (fun hc => ?_) <;> (try simp only [Bool.not_eq_true', Bool.not_eq_false', Bool.not_eq_eq_eq_not, Bool.not_true, Bool.not_false, decide_eq_true_eq, decide_eq_false_iff_not, Int.not_lt, Int.not_le] at hc) <;> (try (exfalso; omega)) <;> (try simp (disch := omega) [go_sem, *, wrap64_id, upd_ne, mk3_true, flatten_replicate_one, stepK_if, ilt_true, ilt_false, ile_true, ile_false, Try.ntmps63])) | (refine ac_cond_h fun Kt Kf ht hf => ?_; simp (disch := omega) [go_sem, *, wrap64_id, upd_ne, mk3_true, flatten_replicate_one, stepK_if, ilt_true, ilt_false, ile_true, ile_false, Try.ntmps63]; try (refine ⟨fun hc => ?_, fun hc => ?_⟩ <;> try (exfalso; omega))))
  (refine ac_ret ?_; try dsimp only [thenA, blockA]; refine ⟨by simp, _, (by first | rfl | (simp (disch := omega) [go_sem, upd_ne] <;> rfl)), ?_⟩; refine ret_id ⟨fun k hk => (by first | rfl | (repeat rw [upd_ne _ _ _ _ (by omega)])), (by simp [go_sem, below]), (by simp [go_sem] <;> omega), by simp, by simp⟩)
theorem clo_double (m : Mail) (s : Step) {b : Nat} {h : AHeap} (hb1 : h b = some (cellsStep s)) (n : Nat) : APureAt Try.prog 62 [encMail m, .ptr b 0] h n (bv (m.id == s.n)) := by
  refine ACalls.pure (ACalls.entry (by kernel_rfl) fun hb _ => calls_of Try.func62 rfl (by kernel_rfl) (by simp [Try.ntmps62]) ?_)
  have hbn : b < n := by
    rcases Nat.lt_or_ge b n with h1 | h1
    · exact h1
    · rw [hb.none h1] at hb1; cases hb1
  repeat' (first | (refine ac_seq_h fun K hK => ?_) | (refine ac_region_h fun K hK => ?_; simp (disch := omega) [go_sem, *, upd_ne, Try.ntmps62]) | (refine ac_draw_h mixed (by kernel_rfl) fun K hK => ?_; simp (disch := omega) [go_sem, *, wrap64_id, upd_ne, mk3_true, flatten_replicate_one, stepK_if, ilt_true, ilt_false, ile_true, ile_false, Try.ntmps62]) | (apply Hide.out hK; clear hK K; try with_reducible dsimp only [thenA]) | (apply Hide.out ht; clear ht hf Kt Kf) | (apply Hide.out hf; clear ht hf Kt Kf) | (clear hK K; apply Hide.out hK; clear hK K; try with_reducible dsimp only [thenA]) | (clear hK K; clear hK K; apply Hide.out hK; clear hK K; try with_reducible dsimp only [thenA]) | (refine ac_block ?_) | (refine ac_skip ?_; simp only [thenA, blockA]) | (refine ac_exit ?_; simp only [thenA, blockA, if_true, if_false, Nat.reduceEqDiff]) | (with_reducible show nextK _ _ _ _ _ _ _; simp (disch := omega) [go_sem, *, wrap64_id, upd_ne, mk3_true, flatten_replicate_one, stepK_if, ilt_true, ilt_false, ile_true, ile_false, Try.ntmps62]) | (refine wantK_split (fun hc => ?_) (fun hc => ?_) <;> (try simp only [Bool.not_eq_true', Bool.not_eq_false', Bool.not_eq_eq_eq_not, Bool.not_true, Bool.not_false, decide_eq_true_eq, decide_eq_false_iff_not, Int.not_lt, Int.not_le] at hc) <;> (try (exfalso; omega)) <;> (try simp (disch := omega) [go_sem, *, wrap64_id, upd_ne, mk3_true, flatten_replicate_one, stepK_if, ilt_true, ilt_false, ile_true, ile_false, Try.ntmps62])) | (refine ac_cond_h fun Kt Kf ht hf => ?_; simp (disch := omega) [go_sem, *, wrap64_id, upd_ne, mk3_true, flatten_replicate_one, stepK_if, ilt_true, ilt_false, ile_true, ile_false, Try.ntmps62]; try (refine ⟨fun hc => ?_, fun hc => ?_⟩ <;> try (exfalso; omega))))
  (refine ac_ret ?_; try dsimp only [thenA, blockA]; refine ⟨by simp, _, (by first | rfl | (simp (disch := omega) [go_sem, upd_ne] <;> rfl)), ?_⟩; refine ret_id ⟨fun k hk => (by first | rfl | (repeat rw [upd_ne _ _ _ _ (by omega)])), (by simp [go_sem, below]), (by simp [go_sem] <;> omega), by simp, by simp⟩)
end Go.AM

namespace Go.AM
open Go.Proofs Wl
set_option maxRecDepth 10000
set_option maxHeartbeats 4000000
theorem idx_hit {l : List Mail} {p : Mail → Bool} {k : Nat} {m : Mail} (hk : l[k]? = some m) (hp : p m = true) (ha : ∀ (j : Nat) m', j < k → l[j]? = some m' → p m' = false) : l.findIdx? p = some k := by
  obtain ⟨h1, rfl⟩ := List.getElem?_eq_some_iff.1 hk
  rw [List.findIdx?_eq_some_iff_getElem]
  refine ⟨h1, hp, fun j hj => ?_⟩
  have := ha j l[j] hj (List.getElem?_eq_getElem (by omega))
  simp [this]
theorem idx_none {l : List Mail} {p : Mail → Bool} (ha : ∀ (j : Nat) m', l[j]? = some m' → p m' = false) : l.findIdx? p = none := by
  rw [List.findIdx?_eq_none_iff]
  intro x hx
  obtain ⟨j, hj⟩ := List.getElem?_of_mem hx
  exact ha j x hj
def idxI (l : List Mail) (p : Mail → Bool) : Int := match l.findIdx? p with | some i => i | none => -1
theorem drop_mail : ∀ {l : List Mail} {k : Nat} {m : Mail} (extra : List AV), l[k]? = some m → List.drop (k * 6) (flat (l.map encMail) ++ extra) = iv .i64 m.id :: iv .i64 m.kind :: iv .i64 m.fr :: iv .i64 m.to :: iv .i64 m.num :: sv m.text :: (flat ((l.drop (k + 1)).map encMail) ++ extra)
  | [], k, m, extra, h => by simp at h
  | x :: r, 0, m, extra, h => by
    simp at h; subst h
    simp [flat, cellsOf]
  | x :: r, k + 1, m, extra, h => by
    have := drop_mail (l := r) (k := k) (m := m) extra (by simpa using h)
    rw [List.drop_succ_cons, ← this]
    simp only [flat, List.map_cons, List.flatten_cons, List.append_assoc]
    rw [show (k + 1) * 6 = 6 + k * 6 by omega, ← List.drop_drop]
    simp [cellsOf]
theorem index_at {l : List Mail} {q : Nat} {V : AV} {h : AHeap} (hV : MailsAt q l V h) (hl : l.length ≤ 1000) (p : Mail → Bool) (g : FuncId) (caps : List AV) (hg : ∀ m n, APureAt Try.prog g (encMail m :: caps) h n (bv (p m))) (n : Nat) :
    APureAt Try.prog 61 [V, .func (.func g) [] caps] h n (iv .i64 (idxI l p)) := by
  refine ACalls.pure (ACalls.entry (by kernel_rfl) fun hb _ => calls_of Try.func61 rfl (by kernel_rfl) (by simp [Try.ntmps61]) ?_)
  rcases hV with ⟨rfl, rfl, _⟩ | ⟨x, rfl, e2, _⟩
  · have hz : idxI [] p = -1 := rfl
    rw [hz]
    repeat' (first | (refine ac_seq_h fun K hK => ?_) | (refine ac_region_h fun K hK => ?_; simp (disch := omega) [go_sem, *, Try.ntmps61]) | (refine ac_draw_h mixed (by kernel_rfl) fun K hK => ?_; simp (disch := omega) [go_sem, *, wrap64_id, upd_ne, mk3_true, flatten_replicate_one, stepK_if, ilt_true, ilt_false, ile_true, ile_false, Try.ntmps61]) | (apply Hide.out hK; clear hK K; try with_reducible dsimp only [thenA]) | (apply Hide.out ht; clear ht hf Kt Kf) | (apply Hide.out hf; clear ht hf Kt Kf) | (clear hK K; apply Hide.out hK; clear hK K; try with_reducible dsimp only [thenA]) | (clear hK K; clear hK K; apply Hide.out hK; clear hK K; try with_reducible dsimp only [thenA]) | (refine ac_block ?_) | (refine ac_skip ?_; simp only [thenA, blockA]) | (refine ac_exit ?_; simp only [thenA, blockA, if_true, if_false, Nat.reduceEqDiff]) | (with_reducible show nextK _ _ _ _ _ _ _; simp (disch := omega) [go_sem, *, wrap64_id, upd_ne, mk3_true, flatten_replicate_one, stepK_if, ilt_true, ilt_false, ile_true, ile_false, Try.ntmps61]) | (refine wantK_split (fun hc => ?_) (fun hc => ?_) <;> (try simp only [Bool.not_eq_true', Bool.not_eq_false', Bool.not_eq_eq_eq_not, Bool.not_true, Bool.not_false, decide_eq_true_eq, decide_eq_false_iff_not, Int.not_lt, Int.not_le] at hc) <;> (try (exfalso; omega)) <;> (try simp (disch := omega) [go_sem, *, wrap64_id, upd_ne, mk3_true, flatten_replicate_one, stepK_if, ilt_true, ilt_false, ile_true, ile_false, Try.ntmps61])) | (refine ac_cond_h fun Kt Kf ht hf => ?_; simp (disch := omega) [go_sem, *, wrap64_id, upd_ne, mk3_true, flatten_replicate_one, stepK_if, ilt_true, ilt_false, ile_true, ile_false, Try.ntmps61]; try (refine ⟨fun hc => ?_, fun hc => ?_⟩ <;> try (exfalso; omega))))
    refine ac_loop_wk (fun s' => ∃ n', n ≤ n' ∧ s' = ⟨19, [(0, .fslc true true 0 []), (7, iv .i64 0), (8, iv .i64 0)], h, n'⟩) (fun _ => 0) ?_ ?_
    · exact loop_start (by simp [go_sem]) (Sub.refl _) ⟨_, by omega, rfl⟩
    · rintro s' ⟨n', hn', rfl⟩
      repeat' (first | (refine ac_seq_h fun K hK => ?_) | (refine ac_region_h fun K hK => ?_; simp (disch := omega) [go_sem, *]) | (refine ac_draw_h mixed (by kernel_rfl) fun K hK => ?_; simp (disch := omega) [go_sem, *, wrap64_id, upd_ne, mk3_true, flatten_replicate_one, stepK_if, ilt_true, ilt_false, ile_true, ile_false]) | (apply Hide.out hK; clear hK K; try with_reducible dsimp only [thenA]) | (apply Hide.out ht; clear ht hf Kt Kf) | (apply Hide.out hf; clear ht hf Kt Kf) | (clear hK K; apply Hide.out hK; clear hK K; try with_reducible dsimp only [thenA]) | (clear hK K; clear hK K; apply Hide.out hK; clear hK K; try with_reducible dsimp only [thenA]) | (refine ac_block ?_) | (refine ac_skip ?_; simp only [thenA, blockA]) | (refine ac_exit ?_; simp only [thenA, blockA, if_true]) | (with_reducible show nextK _ _ _ _ _ _ _; simp (disch := omega) [go_sem, *, wrap64_id, upd_ne, mk3_true, flatten_replicate_one, stepK_if, ilt_true, ilt_false, ile_true, ile_false]) | (refine wantK_split (fun hc => ?_) (fun hc => ?_) <;> (try simp only [Bool.not_eq_true', Bool.not_eq_false', Bool.not_eq_eq_eq_not, Bool.not_true, Bool.not_false, decide_eq_true_eq, decide_eq_false_iff_not, Int.not_lt, Int.not_le] at hc) <;> (try (exfalso; omega)) <;> (try simp (disch := omega) [go_sem, *, wrap64_id, upd_ne, mk3_true, flatten_replicate_one, stepK_if, ilt_true, ilt_false, ile_true, ile_false])) | (refine ac_cond_h fun Kt Kf ht hf => ?_; simp (disch := omega) [go_sem, *]; try (refine ⟨fun hc => ?_, fun hc => ?_⟩ <;> try (exfalso; omega))))
      refine ac_ret ?_
      refine ⟨by simp, _, (by first | rfl | (simp (disch := omega) [go_sem, upd_ne] <;> rfl)), ?_⟩
      exact ret_id ⟨fun k hk => rfl, by simp [go_sem, below, resVal], by rfl, by simp, by simp⟩
  · obtain ⟨C, hC⟩ : ∃ C, Hide (C = flat (l.map encMail) ++ x) := ⟨_, rfl⟩
    rw [← hC.out] at e2
    have hfin : Hide (∀ k, (∀ (j : Nat) m', j < k → l[j]? = some m' → p m' = false) → (∀ m, l[k]? = some m → p m = true → idxI l p = k) ∧ (l.length ≤ k → idxI l p = -1)) := by
      intro k ha
      refine ⟨fun m hm hp => ?_, fun hlk => ?_⟩
      · rw [idxI, idx_hit hm hp ha]
      · rw [idxI, idx_none (fun j m' hj => ha j m' (by have := (List.getElem?_eq_some_iff.1 hj).1; omega) hj)]
    replace hg : Hide _ := hg
    repeat' (first | (refine ac_seq_h fun K hK => ?_) | (refine ac_region_h fun K hK => ?_; simp (disch := omega) [go_sem, *, Try.ntmps61]) | (refine ac_draw_h mixed (by kernel_rfl) fun K hK => ?_; simp (disch := omega) [go_sem, *, wrap64_id, upd_ne, mk3_true, flatten_replicate_one, stepK_if, ilt_true, ilt_false, ile_true, ile_false, Try.ntmps61]) | (apply Hide.out hK; clear hK K; try with_reducible dsimp only [thenA]) | (apply Hide.out ht; clear ht hf Kt Kf) | (apply Hide.out hf; clear ht hf Kt Kf) | (clear hK K; apply Hide.out hK; clear hK K; try with_reducible dsimp only [thenA]) | (clear hK K; clear hK K; apply Hide.out hK; clear hK K; try with_reducible dsimp only [thenA]) | (refine ac_block ?_) | (refine ac_skip ?_; simp only [thenA, blockA]) | (refine ac_exit ?_; simp only [thenA, blockA, if_true, if_false, Nat.reduceEqDiff]) | (with_reducible show nextK _ _ _ _ _ _ _; simp (disch := omega) [go_sem, *, wrap64_id, upd_ne, mk3_true, flatten_replicate_one, stepK_if, ilt_true, ilt_false, ile_true, ile_false, Try.ntmps61]) | (refine wantK_split (fun hc => ?_) (fun hc => ?_) <;> (try simp only [Bool.not_eq_true', Bool.not_eq_false', Bool.not_eq_eq_eq_not, Bool.not_true, Bool.not_false, decide_eq_true_eq, decide_eq_false_iff_not, Int.not_lt, Int.not_le] at hc) <;> (try (exfalso; omega)) <;> (try simp (disch := omega) [go_sem, *, wrap64_id, upd_ne, mk3_true, flatten_replicate_one, stepK_if, ilt_true, ilt_false, ile_true, ile_false, Try.ntmps61])) | (refine ac_cond_h fun Kt Kf ht hf => ?_; simp (disch := omega) [go_sem, *, wrap64_id, upd_ne, mk3_true, flatten_replicate_one, stepK_if, ilt_true, ilt_false, ile_true, ile_false, Try.ntmps61]; try (refine ⟨fun hc => ?_, fun hc => ?_⟩ <;> try (exfalso; omega))))
    refine ac_loop_wk (fun s' => ∃ (k n' : Nat), n ≤ n' ∧ k ≤ l.length ∧ Hide (∀ (j : Nat) m', j < k → l[j]? = some m' → p m' = false) ∧ s' = ⟨19, [(0, .slc q 0 l.length 6), (1, .func (.func g) [] caps), (7, iv .i64 l.length), (8, iv .i64 k)], h, n'⟩) (fun s => l.length - (intAt s 8).toNat) ?_ ?_
    · exact loop_start (by simp [go_sem]) (Sub.refl _) ⟨0, _, by omega, by omega, fun j m' hj => by omega, rfl⟩
    · rintro s' ⟨k, n', hn', hk, ha, rfl⟩
      by_cases hlt : k < l.length
      · obtain ⟨m, hm1, hm2, _⟩ := at_k hlt
        have hd : List.drop (k * 6) C = iv .i64 m.id :: iv .i64 m.kind :: iv .i64 m.fr :: iv .i64 m.to :: iv .i64 m.num :: sv m.text :: (flat ((l.drop (k + 1)).map encMail) ++ x) := by rw [hC.out]; exact drop_mail x hm2
        have hcm := fun b => hg.out m b
        have hfk := (hfin.out k ha.out).1 m hm2
        replace hfk : Hide _ := hfk
        generalize flat ((l.drop (k + 1)).map encMail) ++ x = rest at *
        replace hm2 : Hide _ := hm2
        cases hp : p m
        · rw [hp] at hcm
          repeat' (first | (refine ac_seq_h fun K hK => ?_) | (refine ac_region_h fun K hK => ?_; simp (disch := omega) [go_sem, *, wrap64_id, ilt_true, ile_true]) | (refine ac_draw_h mixed (by kernel_rfl) fun K hK => ?_; simp (disch := omega) [go_sem, *, wrap64_id, upd_ne, mk3_true, flatten_replicate_one, stepK_if, ilt_true, ilt_false, ile_true, ile_false]) | (apply Hide.out hK; clear hK K; try with_reducible dsimp only [thenA]) | (apply Hide.out ht; clear ht hf Kt Kf) | (apply Hide.out hf; clear ht hf Kt Kf) | (clear hK K; apply Hide.out hK; clear hK K; try with_reducible dsimp only [thenA]) | (clear hK K; clear hK K; apply Hide.out hK; clear hK K; try with_reducible dsimp only [thenA]) | (with_reducible refine APureAt.call (hcm _) ?_; try simp (disch := omega) [go_sem, *]) | (refine ac_block ?_) | (refine ac_skip ?_; simp only [thenA, blockA]) | (refine ac_exit ?_; simp only [thenA, blockA, if_true, if_false, Nat.reduceEqDiff]) | (with_reducible show nextK _ _ _ _ _ _ _; simp (disch := omega) [go_sem, *, wrap64_id, upd_ne, mk3_true, flatten_replicate_one, stepK_if, ilt_true, ilt_false, ile_true, ile_false]) | (refine wantK_split (fun hc => ?_) (fun hc => ?_) <;> (try simp only [Bool.not_eq_true', Bool.not_eq_false', Bool.not_eq_eq_eq_not, Bool.not_true, Bool.not_false, decide_eq_true_eq, decide_eq_false_iff_not, Int.not_lt, Int.not_le] at hc) <;> (try (exfalso; omega)) <;> (try simp (disch := omega) [go_sem, *, wrap64_id, upd_ne, mk3_true, flatten_replicate_one, stepK_if, ilt_true, ilt_false, ile_true, ile_false])) | (refine ac_cond_h fun Kt Kf ht hf => ?_; simp (disch := omega) [go_sem, *]; try (refine ⟨fun hc => ?_, fun hc => ?_⟩ <;> try (exfalso; omega))))
          refine round_end (by simp [go_sem]) (Sub.refl _) ⟨k + 1, _, by omega, by omega, fun j m' hj hj2 => ?_, rfl⟩ (by simp [intAt, go_sem]; omega)
          rcases Nat.lt_or_ge j k with h1 | h1
          · exact ha.out j m' h1 hj2
          · have : j = k := by omega
            subst this
            rw [hm2.out] at hj2
            simp only [Option.some.injEq] at hj2
            subst hj2; exact hp
        · rw [hp] at hcm
          have hix := hfk.out hp
          repeat' (first | (refine ac_seq_h fun K hK => ?_) | (refine ac_region_h fun K hK => ?_; simp (disch := omega) [go_sem, *, ilt_true, ile_true]) | (refine ac_draw_h mixed (by kernel_rfl) fun K hK => ?_; simp (disch := omega) [go_sem, *, wrap64_id, upd_ne, mk3_true, flatten_replicate_one, stepK_if, ilt_true, ilt_false, ile_true, ile_false]) | (apply Hide.out hK; clear hK K; try with_reducible dsimp only [thenA]) | (apply Hide.out ht; clear ht hf Kt Kf) | (apply Hide.out hf; clear ht hf Kt Kf) | (clear hK K; apply Hide.out hK; clear hK K; try with_reducible dsimp only [thenA]) | (clear hK K; clear hK K; apply Hide.out hK; clear hK K; try with_reducible dsimp only [thenA]) | (with_reducible refine APureAt.call (hcm _) ?_; try simp (disch := omega) [go_sem, *]) | (refine ac_block ?_) | (refine ac_skip ?_; simp only [thenA]) | (refine ac_exit ?_; simp only [thenA, blockA, if_true, if_false, Nat.reduceEqDiff]) | (with_reducible show nextK _ _ _ _ _ _ _; simp (disch := omega) [go_sem, *, wrap64_id, upd_ne, mk3_true, flatten_replicate_one, stepK_if, ilt_true, ilt_false, ile_true, ile_false]) | (refine wantK_split (fun hc => ?_) (fun hc => ?_) <;> (try simp only [Bool.not_eq_true', Bool.not_eq_false', Bool.not_eq_eq_eq_not, Bool.not_true, Bool.not_false, decide_eq_true_eq, decide_eq_false_iff_not, Int.not_lt, Int.not_le] at hc) <;> (try (exfalso; omega)) <;> (try simp (disch := omega) [go_sem, *, wrap64_id, upd_ne, mk3_true, flatten_replicate_one, stepK_if, ilt_true, ilt_false, ile_true, ile_false])) | (refine ac_cond_h fun Kt Kf ht hf => ?_; simp (disch := omega) [go_sem, *]; try (refine ⟨fun hc => ?_, fun hc => ?_⟩ <;> try (exfalso; omega))))
          (refine ac_ret ?_; try dsimp only [thenA, blockA]; refine ⟨by simp, _, (by first | rfl | (simp (disch := omega) [go_sem, upd_ne] <;> rfl)), ?_⟩; refine ret_id ⟨fun k hk => (by first | rfl | (repeat rw [upd_ne _ _ _ _ (by omega)])), (by simp [go_sem, below]), (by simp [go_sem, hix] <;> omega), by simp, by simp⟩)
      · have hix := (hfin.out k ha.out).2 (by omega)
        have hkl : (l.length : Int) ≤ k := by omega
        clear hlt
        repeat' (first | (refine ac_seq_h fun K hK => ?_) | (refine ac_region_h fun K hK => ?_; simp (disch := omega) [go_sem, *, ilt_false]) | (refine ac_draw_h mixed (by kernel_rfl) fun K hK => ?_; simp (disch := omega) [go_sem, *, wrap64_id, upd_ne, mk3_true, flatten_replicate_one, stepK_if, ilt_true, ilt_false, ile_true, ile_false]) | (apply Hide.out hK; clear hK K; try with_reducible dsimp only [thenA]) | (apply Hide.out ht; clear ht hf Kt Kf) | (apply Hide.out hf; clear ht hf Kt Kf) | (clear hK K; apply Hide.out hK; clear hK K; try with_reducible dsimp only [thenA]) | (clear hK K; clear hK K; apply Hide.out hK; clear hK K; try with_reducible dsimp only [thenA]) | (refine ac_block ?_) | (refine ac_skip ?_; simp only [thenA, blockA]) | (refine ac_exit ?_; simp only [thenA, blockA, if_true]) | (with_reducible show nextK _ _ _ _ _ _ _; simp (disch := omega) [go_sem, *, wrap64_id, upd_ne, mk3_true, flatten_replicate_one, stepK_if, ilt_true, ilt_false, ile_true, ile_false]) | (refine wantK_split (fun hc => ?_) (fun hc => ?_) <;> (try simp only [Bool.not_eq_true', Bool.not_eq_false', Bool.not_eq_eq_eq_not, Bool.not_true, Bool.not_false, decide_eq_true_eq, decide_eq_false_iff_not, Int.not_lt, Int.not_le] at hc) <;> (try (exfalso; omega)) <;> (try simp (disch := omega) [go_sem, *, wrap64_id, upd_ne, mk3_true, flatten_replicate_one, stepK_if, ilt_true, ilt_false, ile_true, ile_false])) | (refine ac_cond_h fun Kt Kf ht hf => ?_; simp (disch := omega) [go_sem, *]; try (refine ⟨fun hc => ?_, fun hc => ?_⟩ <;> try (exfalso; omega))))
        (refine ac_ret ?_; try dsimp only [thenA, blockA]; refine ⟨by simp, _, (by first | rfl | (simp (disch := omega) [go_sem, upd_ne] <;> rfl)), ?_⟩; refine ret_id ⟨fun k hk => (by first | rfl | (repeat rw [upd_ne _ _ _ _ (by omega)])), (by simp [go_sem, below]), (by simp [go_sem, hix] <;> omega), by simp, by simp⟩)
end Go.AM

namespace Go.AM
open Go.Proofs Wl
set_option maxRecDepth 10000
set_option maxHeartbeats 4000000
theorem mails_len (l : List Mail) : (flat (l.map encMail)).length = l.length * 6 := by
  rw [flat_len (s := 6) (fun x hx => by obtain ⟨m, _, rfl⟩ := List.mem_map.1 hx; rfl), List.length_map]
theorem ty32 : eltOf Try.prog 32 = some 36 ∧ szOf Try.prog 36 = some 6 ∧ byOf Try.prog 36 = some 56 ∧ zerOf Try.prog 36 = some (.agg [iv .i64 0, iv .i64 0, iv .i64 0, iv .i64 0, iv .i64 0, sv ByteArray.empty]) := ⟨by kernel_rfl, by kernel_rfl, by kernel_rfl, by kernel_rfl⟩
abbrev zMail : List AV := [iv .i64 0, iv .i64 0, iv .i64 0, iv .i64 0, iv .i64 0, sv ByteArray.empty]
theorem flat_split (l : List Mail) (i : Nat) : flat (l.map encMail) = flat ((l.take i).map encMail) ++ flat ((l.drop i).map encMail) := by
  rw [← flat_append, ← List.map_append, List.take_append_drop]
theorem flat_erase {l : List Mail} {i : Nat} : flat ((l.eraseIdx i).map encMail) = flat ((l.take i).map encMail) ++ flat ((l.drop (i + 1)).map encMail) := by
  rw [List.eraseIdx_eq_take_drop_succ, List.map_append, flat_append]
theorem ap_del {l : List Mail} {q i : Nat} {x : List AV} {h : AHeap} (hq : h q = some (.cells (flat (l.map encMail) ++ x))) (hi : i < l.length) :
    ∃ T : List AV, T.length = 6 ∧ (∀ nm, i + 1 < l.length → aAppend Try.prog nm 32 (.slc q 0 i 6) (.slc q ((i + 1) * 6) (l.length - (i + 1)) 6) h = some (.slc q 0 (l.length - 1) 6, h.upd q (some (.cells (flat ((l.eraseIdx i).map encMail) ++ (T ++ x)))))) ∧
      (∀ nm, ¬ i + 1 < l.length → aAppend Try.prog nm 32 (.slc q 0 i 6) (.fslc false false 6 []) h = some (.slc q 0 (l.length - 1) 6, h.upd q (some (.cells (flat ((l.eraseIdx i).map encMail) ++ (T ++ x)))))) := by
  obtain ⟨e1, e2, e3, e4⟩ := ty32
  have hA : (flat ((l.take i).map encMail)).length = i * 6 := by rw [mails_len, List.length_take]; congr 1; omega
  have hB : (flat ((l.drop (i + 1)).map encMail)).length = (l.length - (i + 1)) * 6 := by rw [mails_len, List.length_drop]
  have hM : flat ((l.drop i).map encMail) = flat ([l[i]].map encMail) ++ flat ((l.drop (i + 1)).map encMail) := by
    rw [← flat_append, ← List.map_append, List.drop_eq_getElem_cons hi]; rfl
  have hMl : (flat ([l[i]].map encMail)).length = 6 := by rw [mails_len]; rfl
  have hC : flat (l.map encMail) = flat ((l.take i).map encMail) ++ (flat ([l[i]].map encMail) ++ flat ((l.drop (i + 1)).map encMail)) := by rw [flat_split l i, hM]
  rw [flat_erase]
  generalize flat ((l.take i).map encMail) = A at *
  generalize flat ((l.drop (i + 1)).map encMail) = B at *
  generalize flat ([l[i]].map encMail) = M at *
  rw [hC] at hq
  have e6 : (l.length - (i + 1)) * 6 + 6 = (l.length - i) * 6 := by omega
  refine ⟨(M ++ B).drop B.length, by simp [hMl], fun nm hlt => ?_, fun nm hlt => ?_⟩
  · have hdrop : List.drop ((i + 1) * 6) (A ++ (M ++ B) ++ x) = B ++ x := by
      have : (i + 1) * 6 = (A ++ M).length := by simp [hA, hMl]; omega
      rw [this, ← List.append_assoc, List.append_assoc (A ++ M), List.drop_left]
    have htake : List.take ((l.length - (i + 1)) * 6) (B ++ x) = B := by rw [← hB, List.take_left]
    have hle1 : (i + 1) * 6 + (l.length - (i + 1)) * 6 ≤ (A ++ (M ++ B) ++ x).length := by simp [hA, hMl, hB]; omega
    have hle2 : (i + (l.length - (i + 1))) * 6 ≤ (A ++ (M ++ B) ++ x).length := by simp [hA, hMl, hB]; omega
    have hsp : splice (A ++ (M ++ B) ++ x) (i * 6) B = A ++ B ++ (List.drop B.length (M ++ B) ++ x) := by
      unfold splice
      rw [← hA, List.append_assoc A, List.take_left, ← List.drop_drop, List.drop_left, List.drop_append_of_le_length (by simp)]
    have hs : i + (l.length - (i + 1)) = l.length - 1 := by omega
    simp only [aAppend, e1, e2, e3, e4, srcCells, hq, if_true, hdrop, htake]
    rw [if_pos ⟨by decide, rfl, rfl, by decide⟩, if_pos hle1]
    rw [hs] at hle2
    simp only [Nat.zero_add, hsp, hs]
    rw [if_pos hle2]
  · have hil : i + 1 = l.length := by omega
    have hB0 : B = [] := List.length_eq_zero_iff.1 (by rw [hB]; omega)
    subst hB0
    have hle2 : (i + 0) * 6 ≤ (A ++ (M ++ []) ++ x).length := by simp [hA, hMl] <;> omega
    have hsp : splice (A ++ (M ++ []) ++ x) (i * 6) (flat []) = A ++ [] ++ (List.drop 0 (M ++ []) ++ x) := by
      unfold splice
      rw [← hA, List.append_assoc A, List.take_left]
      simp [flat]
    have hs : i + 0 = l.length - 1 := by omega
    simp only [aAppend, e1, e2, e3, e4, srcCells, hq, if_true, List.length_nil]
    rw [if_pos ⟨by decide, rfl, rfl, by decide⟩]
    rw [hs] at hle2
    simp only [Nat.zero_add, hsp, hs]
    rw [if_pos hle2]
theorem clear_del {l : List Mail} {q : Nat} {T x : List AV} {h : AHeap} (hq : h q = some (.cells (flat (l.map encMail) ++ (T ++ x)))) (hT : T.length = 6) :
    aClear Try.prog 32 (.slc q (l.length * 6) 1 6) h = some (h.upd q (some (.cells (flat (l.map encMail) ++ (zMail ++ x))))) := by
  obtain ⟨e1, e2, e3, e4⟩ := ty32
  have hA := mails_len l
  generalize flat (l.map encMail) = A at *
  have hle : l.length * 6 + 1 * 6 ≤ (A ++ (T ++ x)).length := by simp [hA, hT] <;> omega
  have hsp : splice (A ++ (T ++ x)) (l.length * 6) (zrow (.agg zMail) 1) = A ++ (zMail ++ x) := by
    have hz : zrow (.agg zMail) 1 = zMail := rfl
    rw [hz]
    unfold splice
    rw [← hA, List.take_left, ← List.drop_drop, List.drop_left]
    have : zMail.length = T.length := by rw [hT]; rfl
    rw [this, List.drop_left, List.append_assoc]
  simp only [aClear, e1, e2, e4, hq, if_true]
  rw [if_pos ⟨rfl, rfl, by decide⟩, if_pos hle, hsp]
theorem delete_spec {l : List Mail} {q i : Nat} {x : List AV} {h : AHeap} (hq : h q = some (.cells (flat (l.map encMail) ++ x))) (hi : i < l.length) (hl : l.length ≤ 1000) (n : Nat) (K : AV → AHeap → Nat → Prop)
    (hK : ∀ n', n ≤ n' → K (.slc q 0 (l.length - 1) 6) (h.upd q (some (.cells (flat ((l.eraseIdx i).map encMail) ++ (zMail ++ x))))) n') :
    ACalls Try.prog 64 [.slc q 0 l.length 6, iv .i64 i, iv .i64 (i + 1)] h n K := by
  refine ACalls.entry (by kernel_rfl) fun hb _ => calls_of Try.func64 rfl (by kernel_rfl) (by simp [Try.ntmps64]) ?_
  have hne : ((i : Int) == i + 1) = false := by simp; omega
  obtain ⟨T, hT, ha1, ha2⟩ := ap_del hq hi
  have hel : (l.eraseIdx i).length = l.length - 1 := by rw [List.length_eraseIdx]; simp [hi]
  have hcl := fun h' hq' => clear_del (l := l.eraseIdx i) (q := q) (T := T) (x := x) (h := h') hq' hT
  rw [hel] at hcl
  obtain ⟨C, hC⟩ : ∃ C, Hide (C = flat (l.map encMail) ++ x) := ⟨_, rfl⟩
  rw [← hC.out] at hq
  have hDl := mails_len (l.eraseIdx i)
  rw [hel] at hDl
  generalize flat ((l.eraseIdx i).map encMail) = D at *
  have hif : l.length * 6 ≤ D.length + (6 + x.length) := by omega
  have hone : l.length - (l.length - 1) = 1 := by omega
  replace hDl : Hide _ := hDl; replace hK : Hide _ := hK; replace ha1 : Hide _ := ha1; replace ha2 : Hide _ := ha2; replace hcl : Hide _ := hcl
  by_cases hlt : i + 1 < l.length
  · have ha := fun nm => ha1.out nm hlt
    replace ha : Hide _ := ha
    repeat' (first | (refine ac_seq_h fun K hK => ?_) | (refine ac_region_h fun K hK => ?_; simp (disch := omega) [go_sem, *, ile_true, Try.ntmps64]) | (refine ac_draw_h mixed (by kernel_rfl) fun K hK => ?_; simp (disch := omega) [go_sem, *, ilt_true, ile_true]) | (apply Hide.out hK; clear hK K; try with_reducible dsimp only [thenA]) | (apply Hide.out ht; clear ht hf Kt Kf) | (apply Hide.out hf; clear ht hf Kt Kf) | (clear hK K; apply Hide.out hK; clear hK K; try with_reducible dsimp only [thenA]) | (clear hK K; clear hK K; apply Hide.out hK; clear hK K; try with_reducible dsimp only [thenA]) | (refine ac_block ?_) | (refine ac_skip ?_; simp only [thenA]) | (refine ac_exit ?_; simp only [thenA, blockA, if_true, if_false, Nat.reduceEqDiff]) | (with_reducible show nextK _ _ _ _ _ _ _; simp (disch := omega) [go_sem, *, wrap64_id, upd_ne, mk3_true, flatten_replicate_one, stepK_if, ilt_true, ilt_false, ile_true, ile_false, Try.ntmps64]) | (refine wantK_split (fun hc => ?_) (fun hc => ?_) <;> (try simp only [Bool.not_eq_true', Bool.not_eq_false', Bool.not_eq_eq_eq_not, Bool.not_true, Bool.not_false, decide_eq_true_eq, decide_eq_false_iff_not, Int.not_lt, Int.not_le] at hc) <;> (try (exfalso; omega)) <;> (try simp (disch := omega) [go_sem, *, wrap64_id, upd_ne, mk3_true, flatten_replicate_one, stepK_if, ilt_true, ilt_false, ile_true, ile_false, Try.ntmps64])) | (refine ac_cond_h fun Kt Kf ht hf => ?_; simp (disch := omega) [go_sem, *]; try (refine ⟨fun hc => ?_, fun hc => ?_⟩ <;> try (exfalso; omega))))
    rw [ha.out]
    simp only [stepK]
    repeat' (first | (refine ac_seq_h fun K hK => ?_) | (refine ac_region_h fun K hK => ?_; simp (disch := omega) [go_sem, *, ilt_true, ile_true, ile_false]) | (refine ac_draw_h mixed (by kernel_rfl) fun K hK => ?_; simp (disch := omega) [go_sem, *, wrap64_id, upd_ne, mk3_true, flatten_replicate_one, stepK_if, ilt_true, ilt_false, ile_true, ile_false, Try.ntmps64]) | (apply Hide.out hK; clear hK K; try with_reducible dsimp only [thenA]) | (apply Hide.out ht; clear ht hf Kt Kf) | (apply Hide.out hf; clear ht hf Kt Kf) | (clear hK K; apply Hide.out hK; clear hK K; try with_reducible dsimp only [thenA]) | (clear hK K; clear hK K; apply Hide.out hK; clear hK K; try with_reducible dsimp only [thenA]) | (refine ac_block ?_) | (refine ac_skip ?_; simp only [thenA, blockA]) | (refine ac_exit ?_; simp only [thenA, blockA, if_true, if_false, Nat.reduceEqDiff]) | (with_reducible show nextK _ _ _ _ _ _ _; simp (disch := omega) [go_sem, *]) | (refine wantK_split (fun hc => ?_) (fun hc => ?_) <;> (try simp only [Bool.not_eq_true', Bool.not_eq_false', Bool.not_eq_eq_eq_not, Bool.not_true, Bool.not_false, decide_eq_true_eq, decide_eq_false_iff_not, Int.not_lt, Int.not_le] at hc) <;> (try (exfalso; omega)) <;> (try simp (disch := omega) [go_sem, *, wrap64_id, upd_ne, mk3_true, flatten_replicate_one, stepK_if, ilt_true, ilt_false, ile_true, ile_false, Try.ntmps64])) | (refine ac_cond_h fun Kt Kf ht hf => ?_; simp (disch := omega) [go_sem, *, wrap64_id, upd_ne, mk3_true, flatten_replicate_one, stepK_if, ilt_true, ilt_false, ile_true, ile_false, Try.ntmps64]; try (refine ⟨fun hc => ?_, fun hc => ?_⟩ <;> try (exfalso; omega))))
    rw [hcl.out _ (by rw [upd_same])]
    simp only [Option.map_some, stepK]
    repeat' (first | (refine ac_seq_h fun K hK => ?_) | (refine ac_region_h fun K hK => ?_; simp (disch := omega) [go_sem, *]) | (refine ac_draw_h mixed (by kernel_rfl) fun K hK => ?_; simp (disch := omega) [go_sem, *, wrap64_id, upd_ne, mk3_true, flatten_replicate_one, stepK_if, ilt_true, ilt_false, ile_true, ile_false, Try.ntmps64]) | (apply Hide.out hK; clear hK K; try with_reducible dsimp only [thenA]) | (apply Hide.out ht; clear ht hf Kt Kf) | (apply Hide.out hf; clear ht hf Kt Kf) | (clear hK K; apply Hide.out hK; clear hK K; try with_reducible dsimp only [thenA]) | (clear hK K; clear hK K; apply Hide.out hK; clear hK K; try with_reducible dsimp only [thenA]) | (refine ac_block ?_) | (refine ac_skip ?_; simp only [thenA, blockA]) | (refine ac_exit ?_; simp only [thenA, blockA, if_true, if_false, Nat.reduceEqDiff]) | (with_reducible show nextK _ _ _ _ _ _ _; simp (disch := omega) [go_sem, *, wrap64_id, upd_ne, mk3_true, flatten_replicate_one, stepK_if, ilt_true, ilt_false, ile_true, ile_false, Try.ntmps64]) | (refine wantK_split (fun hc => ?_) (fun hc => ?_) <;> (try simp only [Bool.not_eq_true', Bool.not_eq_false', Bool.not_eq_eq_eq_not, Bool.not_true, Bool.not_false, decide_eq_true_eq, decide_eq_false_iff_not, Int.not_lt, Int.not_le] at hc) <;> (try (exfalso; omega)) <;> (try simp (disch := omega) [go_sem, *, wrap64_id, upd_ne, mk3_true, flatten_replicate_one, stepK_if, ilt_true, ilt_false, ile_true, ile_false, Try.ntmps64])) | (refine ac_cond_h fun Kt Kf ht hf => ?_; simp (disch := omega) [go_sem, *, wrap64_id, upd_ne, mk3_true, flatten_replicate_one, stepK_if, ilt_true, ilt_false, ile_true, ile_false, Try.ntmps64]; try (refine ⟨fun hc => ?_, fun hc => ?_⟩ <;> try (exfalso; omega))))
    refine ac_ret ?_
    refine ⟨by simp, _, (by first | rfl | (simp (disch := omega) [go_sem, upd_ne] <;> rfl)), ?_⟩
    refine ret_id ?_
    have := hK.out (n + 1 + 6 + 3 + 3 + 8 + 6 + 2) (by omega)
    rw [upd_upd]
    exact this
  · have ha := fun nm => ha2.out nm hlt
    have hn0 : ¬ ((i : Int) + 1 = 0) := by omega
    replace ha : Hide _ := ha
    repeat' (first | (refine ac_seq_h fun K hK => ?_) | (refine ac_region_h fun K hK => ?_; simp (disch := omega) [go_sem, *, ile_true, Try.ntmps64]) | (refine ac_draw_h mixed (by kernel_rfl) fun K hK => ?_; simp (disch := omega) [go_sem, *, ilt_false, ile_true]) | (apply Hide.out hK; clear hK K; try with_reducible dsimp only [thenA]) | (apply Hide.out ht; clear ht hf Kt Kf) | (apply Hide.out hf; clear ht hf Kt Kf) | (clear hK K; apply Hide.out hK; clear hK K; try with_reducible dsimp only [thenA]) | (clear hK K; clear hK K; apply Hide.out hK; clear hK K; try with_reducible dsimp only [thenA]) | (refine ac_block ?_) | (refine ac_skip ?_; simp only [thenA]) | (refine ac_exit ?_; simp only [thenA, blockA, if_true, if_false, Nat.reduceEqDiff]) | (with_reducible show nextK _ _ _ _ _ _ _; simp (disch := omega) [go_sem, *, wrap64_id, upd_ne, mk3_true, flatten_replicate_one, stepK_if, ilt_true, ilt_false, ile_true, ile_false, Try.ntmps64]) | (refine wantK_split (fun hc => ?_) (fun hc => ?_) <;> (try simp only [Bool.not_eq_true', Bool.not_eq_false', Bool.not_eq_eq_eq_not, Bool.not_true, Bool.not_false, decide_eq_true_eq, decide_eq_false_iff_not, Int.not_lt, Int.not_le] at hc) <;> (try (exfalso; omega)) <;> (try simp (disch := omega) [go_sem, *, wrap64_id, upd_ne, mk3_true, flatten_replicate_one, stepK_if, ilt_true, ilt_false, ile_true, ile_false, Try.ntmps64])) | (refine ac_cond_h fun Kt Kf ht hf => ?_; simp (disch := omega) [go_sem, *]; try (refine ⟨fun hc => ?_, fun hc => ?_⟩ <;> try (exfalso; omega))))
    rw [ha.out]
    simp only [stepK]
    repeat' (first | (refine ac_seq_h fun K hK => ?_) | (refine ac_region_h fun K hK => ?_; simp (disch := omega) [go_sem, *, ilt_true, ile_true, ile_false]) | (refine ac_draw_h mixed (by kernel_rfl) fun K hK => ?_; simp (disch := omega) [go_sem, *, wrap64_id, upd_ne, mk3_true, flatten_replicate_one, stepK_if, ilt_true, ilt_false, ile_true, ile_false, Try.ntmps64]) | (apply Hide.out hK; clear hK K; try with_reducible dsimp only [thenA]) | (apply Hide.out ht; clear ht hf Kt Kf) | (apply Hide.out hf; clear ht hf Kt Kf) | (clear hK K; apply Hide.out hK; clear hK K; try with_reducible dsimp only [thenA]) | (clear hK K; clear hK K; apply Hide.out hK; clear hK K; try with_reducible dsimp only [thenA]) | (refine ac_block ?_) | (refine ac_skip ?_; simp only [thenA, blockA]) | (refine ac_exit ?_; simp only [thenA, blockA, if_true, if_false, Nat.reduceEqDiff]) | (with_reducible show nextK _ _ _ _ _ _ _; simp (disch := omega) [go_sem, *]) | (refine wantK_split (fun hc => ?_) (fun hc => ?_) <;> (try simp only [Bool.not_eq_true', Bool.not_eq_false', Bool.not_eq_eq_eq_not, Bool.not_true, Bool.not_false, decide_eq_true_eq, decide_eq_false_iff_not, Int.not_lt, Int.not_le] at hc) <;> (try (exfalso; omega)) <;> (try simp (disch := omega) [go_sem, *, wrap64_id, upd_ne, mk3_true, flatten_replicate_one, stepK_if, ilt_true, ilt_false, ile_true, ile_false, Try.ntmps64])) | (refine ac_cond_h fun Kt Kf ht hf => ?_; simp (disch := omega) [go_sem, *, wrap64_id, upd_ne, mk3_true, flatten_replicate_one, stepK_if, ilt_true, ilt_false, ile_true, ile_false, Try.ntmps64]; try (refine ⟨fun hc => ?_, fun hc => ?_⟩ <;> try (exfalso; omega))))
    rw [hcl.out _ (by rw [upd_same])]
    simp only [Option.map_some, stepK]
    repeat' (first | (refine ac_seq_h fun K hK => ?_) | (refine ac_region_h fun K hK => ?_; simp (disch := omega) [go_sem, *]) | (refine ac_draw_h mixed (by kernel_rfl) fun K hK => ?_; simp (disch := omega) [go_sem, *, wrap64_id, upd_ne, mk3_true, flatten_replicate_one, stepK_if, ilt_true, ilt_false, ile_true, ile_false, Try.ntmps64]) | (apply Hide.out hK; clear hK K; try with_reducible dsimp only [thenA]) | (apply Hide.out ht; clear ht hf Kt Kf) | (apply Hide.out hf; clear ht hf Kt Kf) | (clear hK K; apply Hide.out hK; clear hK K; try with_reducible dsimp only [thenA]) | (clear hK K; clear hK K; apply Hide.out hK; clear hK K; try with_reducible dsimp only [thenA]) | (refine ac_block ?_) | (refine ac_skip ?_; simp only [thenA, blockA]) | (refine ac_exit ?_; simp only [thenA, blockA, if_true, if_false, Nat.reduceEqDiff]) | (with_reducible show nextK _ _ _ _ _ _ _; simp (disch := omega) [go_sem, *, wrap64_id, upd_ne, mk3_true, flatten_replicate_one, stepK_if, ilt_true, ilt_false, ile_true, ile_false, Try.ntmps64]) | (refine wantK_split (fun hc => ?_) (fun hc => ?_) <;> (try simp only [Bool.not_eq_true', Bool.not_eq_false', Bool.not_eq_eq_eq_not, Bool.not_true, Bool.not_false, decide_eq_true_eq, decide_eq_false_iff_not, Int.not_lt, Int.not_le] at hc) <;> (try (exfalso; omega)) <;> (try simp (disch := omega) [go_sem, *, wrap64_id, upd_ne, mk3_true, flatten_replicate_one, stepK_if, ilt_true, ilt_false, ile_true, ile_false, Try.ntmps64])) | (refine ac_cond_h fun Kt Kf ht hf => ?_; simp (disch := omega) [go_sem, *, wrap64_id, upd_ne, mk3_true, flatten_replicate_one, stepK_if, ilt_true, ilt_false, ile_true, ile_false, Try.ntmps64]; try (refine ⟨fun hc => ?_, fun hc => ?_⟩ <;> try (exfalso; omega))))
    refine ac_ret ?_
    refine ⟨by simp, _, (by first | rfl | (simp (disch := omega) [go_sem, upd_ne] <;> rfl)), ?_⟩
    refine ret_id ?_
    have := hK.out (n + 1 + 6 + 3 + 3 + 8 + 6 + 2) (by omega)
    rw [upd_upd]
    exact this
end Go.AM

namespace Go.AM
open Go.Proofs Wl
set_option maxRecDepth 10000
set_option maxHeartbeats 4000000
/-- the names that stay -/
def FixN (N' N : Sl → Nat) : Prop := N' .p = N .p ∧ N' .map = N .map ∧ ∀ a b, N' (.nm a b) = N (.nm a b)
theorem FixN.rfl {N : Sl → Nat} : FixN N N := ⟨_root_.rfl, _root_.rfl, fun _ _ => _root_.rfl⟩
/-- a world has been turned into another one, and nothing else that was there -/
def WTurn (w : Wd) (N : Sl → Nat) (h : AHeap) (n : Nat) (w' : Wd) (h' : AHeap) (n' : Nat) : Prop :=
  ∃ N' V', WRep w' N' V' h' ∧ FixN N' N ∧ (∀ k, own w'.st N' k → (own w.st N k ∨ n ≤ k) ∧ k < n') ∧ n ≤ n' ∧ ∀ k, k < n → ¬ own w.st N k → h' k = h k
def setq (N : Sl → Nat) (q : Nat) : Sl → Nat
  | .q => q
  | s => N s
theorem setq_ne {N : Sl → Nat} {q : Nat} {s : Sl} (h : s ≠ .q) : setq N q s = N s := by cases s <;> first | rfl | exact absurd rfl h
/-- the row of mails and the counters are turned -/
theorem WRep.row {w : Wd} {N : Sl → Nat} {V : AV} {h : AHeap} (R : WRep w N V h) {h' : AHeap} {q' : Nat} {V' : AV} {l : List Mail} {k t : Int}
    (hp : h' (N .p) = some (.cells [iv .i64 w.st, iv .i64 w.wait, iv .i64 t, iv .i64 k, .map (N .map), V'])) (hm : MailsAt q' l V' h') (hk : ∀ s : Sl, s.ok w.st → s ≠ .p → s ≠ .q → h' (N s) = h (N s)) (hq : q' = N .q ∨ ∀ s : Sl, s.ok w.st → N s ≠ q') :
    WRep { w with tick := t, last := k, mails := l } (setq N q') V' h' := by
  have hne : ∀ s : Sl, s ≠ .q → setq N q' s = N s := fun s hs => setq_ne hs
  refine ⟨by rw [hne .p (by simp), hne .map (by simp)]; exact hp, hm, ?_, fun a b h1 h2 h3 => ?_, fun a b h1 h2 h3 => ?_, fun s s' hs hs' e => ?_⟩
  · rw [hne .map (by simp), hk .map trivial (by simp) (by simp), R.mp]
    simp only [mapEs]
    congr 3
  · rw [hne _ (by simp), hne _ (by simp), hk (.nm a b) ⟨h1, h2, h3⟩ (by simp) (by simp)]; exact R.tks a b h1 h2 h3
  · rw [hne _ (by simp), hk (.sm a b) ⟨h1, h2, h3⟩ (by simp) (by simp)]; exact R.sds a b h1 h2 h3
  · have hq2 : ∀ s : Sl, s.ok w.st → s ≠ .q → N s ≠ q' := fun s hs hsq e => by
      rcases hq with rfl | hq
      · exact hsq (R.inj s .q hs trivial e)
      · exact hq s hs e
    by_cases h1 : s = .q <;> by_cases h2 : s' = .q
    · rw [h1, h2]
    · subst h1
      rw [hne s' h2] at e
      exact absurd e.symm (hq2 s' hs' h2)
    · subst h2
      rw [hne s h1] at e
      exact absurd e (hq2 s hs h1)
    · rw [hne s h1, hne s' h2] at e
      exact R.inj s s' hs hs' e
theorem ap_mail {q : Nat} {l : List Mail} {V : AV} {h : AHeap} (hV : MailsAt q l V h) (m : Mail) (nl full : Bool) (nm : Nat) (hl : l.length < 1000) :
    ∃ V' h' q', aAppend Try.prog nm 32 V (.fslc nl full 6 [encMail m]) h = some (V', h') ∧ AV.scalar V' = true ∧ cellsOf V' = [V'] ∧ MailsAt q' (l ++ [m]) V' h' ∧ (∀ k, k ≠ q → k ≠ nm → h' k = h k) ∧ (q' = q ∨ q' = nm) := by
  obtain ⟨e1, e2, e3, e4⟩ := ty32
  rcases hV with ⟨rfl, rfl, e5⟩ | ⟨x, rfl, e5, e6⟩
  · refine ⟨.slc nm 0 1 6, h.upd nm (some (.cells (flat ([m].map encMail)))), nm, ?_, rfl, rfl, .inr ⟨[], by simp, by rw [upd_same]; simp, rfl⟩, fun k _ h2 => upd_ne _ _ _ _ h2, .inr rfl⟩
    simp [aAppend, e1, e2, e3, e4, srcCells, flat, cellsOf, AV.scalar]
  · have hlen := mails_len l
    have hf : flat ((l ++ [m]).map encMail) = flat (l.map encMail) ++ [iv .i64 m.id, iv .i64 m.kind, iv .i64 m.fr, iv .i64 m.to, iv .i64 m.num, sv m.text] := by
      rw [List.map_append, flat_append]; rfl
    by_cases hx : x = []
    · subst hx
      rw [List.append_nil] at e5
      have hnot : ¬ (l.length + 1) * 6 ≤ (flat (l.map encMail)).length := by omega
      have hc : l.length * 6 = (flat (l.map encMail)).length := by omega
      have hl2 : l.length + 1 ≤ 67108864 := by omega
      refine ⟨.slc nm 0 (l.length + 1) 6, (h.upd q none).upd nm (some (.cells (flat ((l ++ [m]).map encMail)))), nm, ?_, rfl, rfl, .inr ⟨[], by simp, by rw [upd_same]; simp, rfl⟩, fun k h1 h2 => by rw [upd_ne _ _ _ _ h2, upd_ne _ _ _ _ h1], .inr rfl⟩
      have hfl : flat [encMail m] = [iv .i64 m.id, iv .i64 m.kind, iv .i64 m.fr, iv .i64 m.to, iv .i64 m.num, sv m.text] := rfl
      rw [hf]
      simp only [aAppend, e1, e2, e3, e4, srcCells, e5, if_true, hfl]
      rw [if_pos ⟨by decide, rfl, rfl, by decide⟩]
      have e26 : (2 : Nat) ^ 26 = 67108864 := by decide
      simp only [List.length_cons, List.length_nil, Nat.zero_add, if_neg hnot, e26]
      rw [if_pos ⟨hc, hl2⟩, List.drop_zero]
    · have hx6 : 6 ≤ x.length := by
        have : 0 < x.length := List.length_pos_iff.2 hx
        omega
      have hle : (l.length + 1) * 6 ≤ (flat (l.map encMail) ++ x).length := by rw [List.length_append]; omega
      refine ⟨.slc q 0 (l.length + 1) 6, h.upd q (some (.cells (flat ((l ++ [m]).map encMail) ++ x.drop 6))), q, ?_, rfl, rfl, .inr ⟨x.drop 6, by simp, by rw [upd_same], by simp; omega⟩, fun k h1 _ => upd_ne _ _ _ _ h1, .inl rfl⟩
      have hsp : splice (flat (l.map encMail) ++ x) (l.length * 6) [iv .i64 m.id, iv .i64 m.kind, iv .i64 m.fr, iv .i64 m.to, iv .i64 m.num, sv m.text] = flat ((l ++ [m]).map encMail) ++ x.drop 6 := by
        unfold splice
        rw [hf, ← hlen, List.take_left, ← List.drop_drop, List.drop_left]
        simp
      have hfl : flat [encMail m] = [iv .i64 m.id, iv .i64 m.kind, iv .i64 m.fr, iv .i64 m.to, iv .i64 m.num, sv m.text] := rfl
      simp only [aAppend, e1, e2, e3, e4, srcCells, e5, if_true, hfl]
      rw [if_pos ⟨by decide, rfl, rfl, by decide⟩]
      simp only [List.length_cons, List.length_nil, Nat.zero_add, if_pos hle, hsp]
end Go.AM

namespace Go.AM
open Go.Proofs Wl
set_option maxRecDepth 10000
set_option maxHeartbeats 4000000
theorem MailsAt.congr {q : Nat} {l : List Mail} {V : AV} {h h' : AHeap} (hV : MailsAt q l V h) (he : h' q = h q) : MailsAt q l V h' := by
  rcases hV with ⟨e1, e2, e3⟩ | ⟨x, e1, e2, e3⟩
  · exact .inl ⟨e1, e2, by rw [he]; exact e3⟩
  · exact .inr ⟨x, e1, by rw [he]; exact e2, e3⟩
theorem ap_mail_K {q : Nat} {l : List Mail} {V : AV} {h : AHeap} (m : Mail) {nl full : Bool} {nm n : Nat} {K : AV → AHeap → Nat → Prop} (hV : MailsAt q l V h) (hl : l.length < 1000)
    (hk : ∀ V' h' q', AV.scalar V' = true → cellsOf V' = [V'] → MailsAt q' (l ++ [m]) V' h' → (∀ k, k ≠ q → k ≠ nm → h' k = h k) → (q' = q ∨ q' = nm) → K V' h' n) : stepK (aAppend Try.prog nm 32 V (.fslc nl full 6 [encMail m]) h) n K := by
  obtain ⟨V', h', q', h1, h2, h3, h4, h5, h6⟩ := ap_mail hV m nl full nm hl
  rw [h1]
  exact hk V' h' q' h2 h3 h4 h5 h6
theorem stamp_length : ∀ (k : Int) (l : List Mail), (stamp k l).length = l.length
  | _, [] => rfl
  | k, m :: r => by simp [stamp, stamp_length]
theorem stamp_append : ∀ (k : Int) (a b : List Mail), stamp k (a ++ b) = stamp k a ++ stamp (k + a.length) b
  | k, [], b => by simp [stamp]
  | k, m :: r, b => by
    simp only [List.cons_append, stamp, stamp_append (k + 1) r b, List.length_cons]
    congr 3
    omega
theorem put_spec {w : Wd} {N : Sl → Nat} {V : AV} {h : AHeap} (R : WRep w N V h) (hl : w.mails.length ≤ 200) (hk0 : 0 ≤ w.last) (hk1 : w.last ≤ 1000000000000) (l : List Mail) (hll : l.length ≤ 1000) (nl full : Bool) (s6 : Nat) (hs : l ≠ [] → s6 = 6) (n : Nat) (hown : ∀ k, own w.st N k → k < n) (K0 : AV → AHeap → Nat → Prop)
    (hK0 : ∀ h' n', WTurn w N h n (putW w l) h' n' → K0 (.tup []) h' n') : ACalls Try.prog 59 [.ptr (N .p) 0, .fslc nl full s6 (l.map encMail)] h n K0 := by
  refine ACalls.entry (by kernel_rfl) fun hb _ => calls_of Try.func59 rfl (by kernel_rfl) (by simp [Try.ntmps59]) ?_
  have c58 := fun b => room_at R hl b
  have hr1 : room w ≤ 200 := by simp only [room]; omega
  have hr2 : (room w : Int) ≤ 1000000 := by omega
  obtain ⟨r, hr⟩ : ∃ r, Hide (r = room w) := ⟨_, rfl⟩
  rw [← hr.out] at c58 hr1 hr2
  have hp := R.hd
  have hpn : N .p < n := hown _ ⟨.p, trivial, rfl⟩
  replace hK0 : Hide _ := hK0; replace hown : Hide _ := hown; replace hs : Hide _ := hs
  repeat' (first | (refine ac_seq_h fun K hK => ?_) | (refine ac_region_h fun K hK => ?_; simp (disch := omega) [go_sem, *, Try.ntmps59 ]) | (refine ac_draw_h mixed (by kernel_rfl) fun K hK => ?_; simp (disch := omega) [go_sem, *, wrap64_id, upd_ne, mk3_true, flatten_replicate_one, stepK_if, ilt_true, ilt_false, ile_true, ile_false, Try.ntmps59, aMakeChan ]) | (apply Hide.out hK; clear hK K; try with_reducible dsimp only [thenA]) | (apply Hide.out ht; clear ht hf Kt Kf) | (apply Hide.out hf; clear ht hf Kt Kf) | (clear hK K; apply Hide.out hK; clear hK K; try with_reducible dsimp only [thenA]) | (clear hK K; clear hK K; apply Hide.out hK; clear hK K; try with_reducible dsimp only [thenA]) | (with_reducible refine APureAt.call (c58 _) ?_; try simp (disch := omega) [go_sem, *, ile_true, aMakeChan ]) | (refine ac_block ?_) | (refine ac_skip ?_; simp only [thenA, blockA]) | (refine ac_exit ?_; simp only [thenA, blockA, if_true, if_false, Nat.reduceEqDiff]) | (with_reducible show nextK _ _ _ _ _ _ _; simp (disch := omega) [go_sem, *, wrap64_id, upd_ne, mk3_true, flatten_replicate_one, stepK_if, ilt_true, ilt_false, ile_true, ile_false, Try.ntmps59, aMakeChan ]) | (refine wantK_split (fun hc => ?_) (fun hc => ?_) <;> (try simp only [Bool.not_eq_true', Bool.not_eq_false', Bool.not_eq_eq_eq_not, Bool.not_true, Bool.not_false, decide_eq_true_eq, decide_eq_false_iff_not, Int.not_lt, Int.not_le] at hc) <;> (try (exfalso; omega)) <;> (try simp (disch := omega) [go_sem, *, wrap64_id, upd_ne, mk3_true, flatten_replicate_one, stepK_if, ilt_true, ilt_false, ile_true, ile_false, Try.ntmps59, aMakeChan ])) | (refine ac_cond_h fun Kt Kf ht hf => ?_; simp (disch := omega) [go_sem, *, wrap64_id, upd_ne, mk3_true, flatten_replicate_one, stepK_if, ilt_true, ilt_false, ile_true, ile_false, Try.ntmps59, aMakeChan ]; try (refine ⟨fun hc => ?_, fun hc => ?_⟩ <;> try (exfalso; omega))))
  obtain ⟨c, hc⟩ : ∃ c, Hide (c = n + 2) := ⟨_, rfl⟩
  rw [← hc.out]
  have hcn : n ≤ c := by rw [hc.out]; omega
  have hcn2 : c < n + 3 := by rw [hc.out]; omega
  have hb0 : Hide (∀ k, n ≤ k → h k = none) := fun k hk => hb.none hk
  refine ac_loop_wk (fun s' => ∃ (k n' : Nat), n + 2 < n' ∧ k ≤ l.length ∧ s' = ⟨50, [(0, .ptr (N .p) 0), (4, .chan c), (11, .fslc nl full s6 (l.map encMail)), (12, iv .i64 l.length), (13, iv .i64 k)], h.upd c (some (.chan r (((l.take k).take r).map encMail) false)), n'⟩) (fun s => l.length - (intAt s 13).toNat) ?_ ?_
  · have e0 : ((l.take 0).take r).map encMail = [] := by simp
    exact loop_start (by simp [go_sem]) (by rw [e0]; exact Sub.refl _) ⟨0, _, by omega, by omega, rfl⟩
  · rintro s' ⟨k, n', hn', hk, rfl⟩
    by_cases hlt : k < l.length
    · obtain ⟨m, hm1, hm2, _⟩ := at_k hlt
      obtain rfl := hs.out (by intro e; rw [e] at hlt; simp at hlt)
      obtain ⟨B, hB⟩ : ∃ B, Hide (B = ((l.take k).take r).map encMail) := ⟨_, rfl⟩
      rw [← hB.out]
      have hBl : B.length = min r k := by rw [hB.out, List.length_map, List.length_take, List.length_take]; omega
      have hnR : Hide (B.length < r → ((l.take (k + 1)).take r).map encMail = B ++ [encMail m]) := fun h1 => by
        rw [hB.out, List.take_of_length_le (l := l.take (k + 1)) (by rw [List.length_take]; omega), List.take_of_length_le (l := l.take k) (by rw [List.length_take]; omega), List.take_succ_eq_append_getElem hlt, hm1, List.map_append]
        rfl
      have hnF : Hide (r ≤ B.length → ((l.take (k + 1)).take r).map encMail = B) := fun h1 => by
        rw [hB.out, List.take_take, List.take_take, Nat.min_eq_left (by omega), Nat.min_eq_left (by omega)]
      replace hBl : Hide _ := hBl
      iterate 24 (first | (refine ac_seq_h fun K hK => ?_) | (refine ac_region_h fun K hK => ?_; simp (disch := omega) [go_sem, *, ilt_true, ile_true]) | (refine ac_draw_h mixed (by kernel_rfl) fun K hK => ?_; simp (disch := omega) [go_sem, *, wrap64_id, upd_ne, mk3_true, flatten_replicate_one, stepK_if, ilt_true, ilt_false, ile_true, ile_false]) | (apply Hide.out hK; clear hK K; try with_reducible dsimp only [thenA]) | (apply Hide.out ht; clear ht hf Kt Kf) | (apply Hide.out hf; clear ht hf Kt Kf) | (clear hK K; apply Hide.out hK; clear hK K; try with_reducible dsimp only [thenA]) | (clear hK K; clear hK K; apply Hide.out hK; clear hK K; try with_reducible dsimp only [thenA]) | (refine ac_block ?_) | (refine ac_skip ?_; simp only [thenA]) | (refine ac_exit ?_; simp only [thenA, blockA, if_true, if_false, Nat.reduceEqDiff]) | (with_reducible show nextK _ _ _ _ _ _ _; simp (disch := omega) [go_sem, *, wrap64_id, upd_ne, mk3_true, flatten_replicate_one, stepK_if, ilt_true, ilt_false, ile_true, ile_false]) | (refine wantK_split (fun hc => ?_) (fun hc => ?_) <;> (try simp only [Bool.not_eq_true', Bool.not_eq_false', Bool.not_eq_eq_eq_not, Bool.not_true, Bool.not_false, decide_eq_true_eq, decide_eq_false_iff_not, Int.not_lt, Int.not_le] at hc) <;> (try (exfalso; omega)) <;> (try simp (disch := omega) [go_sem, *, wrap64_id, upd_ne, mk3_true, flatten_replicate_one, stepK_if, ilt_true, ilt_false, ile_true, ile_false])) | (refine ac_cond_h fun Kt Kf ht hf => ?_; simp (disch := omega) [go_sem, *]; try (refine ⟨fun hc => ?_, fun hc => ?_⟩ <;> try (exfalso; omega))))
      refine ac_select_h c r B rfl rfl rfl rfl (by simp [go_sem]) (by simp (disch := omega) only [upd_ne, upd_same]) zerOf36 (fun hroom K3 hK3 => ?_) (fun hfull K3 hK3 => ?_)
      · simp (disch := omega) [go_sem, *]
        repeat' (first | (refine ac_seq_h fun K hK => ?_) | (refine ac_region_h fun K hK => ?_; simp (disch := omega) [go_sem, *, wrap64_id, upd_ne, mk3_true, flatten_replicate_one, stepK_if, ilt_true, ilt_false, ile_true, ile_false]) | (refine ac_draw_h mixed (by kernel_rfl) fun K hK => ?_; simp (disch := omega) [go_sem, *, wrap64_id, upd_ne, mk3_true, flatten_replicate_one, stepK_if, ilt_true, ilt_false, ile_true, ile_false]) | (apply Hide.out hK; clear hK K; try with_reducible dsimp only [thenA]) | (apply Hide.out ht; clear ht hf Kt Kf) | (apply Hide.out hf; clear ht hf Kt Kf) | (clear hK K; apply Hide.out hK; clear hK K; try with_reducible dsimp only [thenA]) | (clear hK K; clear hK K; apply Hide.out hK; clear hK K; try with_reducible dsimp only [thenA]) | (refine ac_block ?_) | (refine ac_skip ?_; simp only [thenA, blockA]) | (refine ac_exit ?_; simp only [thenA, blockA, if_true, if_false, Nat.reduceEqDiff]) | (with_reducible show nextK _ _ _ _ _ _ _; simp (disch := omega) [go_sem, *, wrap64_id, upd_ne, mk3_true, flatten_replicate_one, stepK_if, ilt_true, ilt_false, ile_true, ile_false]) | (refine wantK_split (fun hc => ?_) (fun hc => ?_) <;> (try simp only [Bool.not_eq_true', Bool.not_eq_false', Bool.not_eq_eq_eq_not, Bool.not_true, Bool.not_false, decide_eq_true_eq, decide_eq_false_iff_not, Int.not_lt, Int.not_le] at hc) <;> (try (exfalso; omega)) <;> (try simp (disch := omega) [go_sem, *, wrap64_id, upd_ne, mk3_true, flatten_replicate_one, stepK_if, ilt_true, ilt_false, ile_true, ile_false])) | (refine ac_cond_h fun Kt Kf ht hf => ?_; simp (disch := omega) [go_sem, *, wrap64_id, upd_ne, mk3_true, flatten_replicate_one, stepK_if, ilt_true, ilt_false, ile_true, ile_false]; try (refine ⟨fun hc => ?_, fun hc => ?_⟩ <;> try (exfalso; omega))))
        refine hK3.out _ ?_
        clear hK3 K3
        dsimp only [thenA]
        refine hK.out _ ?_
        clear hK K
        repeat' (first | (refine ac_seq_h fun K hK => ?_) | (refine ac_region_h fun K hK => ?_; simp (disch := omega) [go_sem, *, wrap64_id]) | (refine ac_draw_h mixed (by kernel_rfl) fun K hK => ?_; simp (disch := omega) [go_sem, *, wrap64_id, upd_ne, mk3_true, flatten_replicate_one, stepK_if, ilt_true, ilt_false, ile_true, ile_false]) | (apply Hide.out hK; clear hK K; try with_reducible dsimp only [thenA]) | (apply Hide.out ht; clear ht hf Kt Kf) | (apply Hide.out hf; clear ht hf Kt Kf) | (clear hK K; apply Hide.out hK; clear hK K; try with_reducible dsimp only [thenA]) | (clear hK K; clear hK K; apply Hide.out hK; clear hK K; try with_reducible dsimp only [thenA]) | (refine ac_block ?_) | (refine ac_skip ?_; simp only [thenA, blockA]) | (refine ac_exit ?_; simp only [thenA, blockA, if_true, if_false, Nat.reduceEqDiff]) | (with_reducible show nextK _ _ _ _ _ _ _; simp (disch := omega) [go_sem, *, wrap64_id, upd_ne, mk3_true, flatten_replicate_one, stepK_if, ilt_true, ilt_false, ile_true, ile_false]) | (refine wantK_split (fun hc => ?_) (fun hc => ?_) <;> (try simp only [Bool.not_eq_true', Bool.not_eq_false', Bool.not_eq_eq_eq_not, Bool.not_true, Bool.not_false, decide_eq_true_eq, decide_eq_false_iff_not, Int.not_lt, Int.not_le] at hc) <;> (try (exfalso; omega)) <;> (try simp (disch := omega) [go_sem, *, wrap64_id, upd_ne, mk3_true, flatten_replicate_one, stepK_if, ilt_true, ilt_false, ile_true, ile_false])) | (refine ac_cond_h fun Kt Kf ht hf => ?_; simp (disch := omega) [go_sem, *]; try (refine ⟨fun hc => ?_, fun hc => ?_⟩ <;> try (exfalso; omega))))
        refine round_end (by simp [go_sem]) ?_ ⟨k + 1, _, by omega, by omega, rfl⟩ (by simp [intAt, go_sem]; omega)
        rw [hnR.out hroom, upd_comm _ (show n' + 1 + 2 ≠ c by omega), upd_comm _ (show n' + 1 + 2 ≠ c by omega), upd_upd]
        repeat (first | exact Sub.refl _ | refine Sub.upd ?_ (by rw [upd_ne _ _ _ _ (by omega)]; exact hb0.out _ (by omega)) _)
        try (rw [upd_upd]; exact Sub.refl _)
      · simp (disch := omega) [go_sem, *]
        repeat' (first | (refine ac_seq_h fun K hK => ?_) | (refine ac_region_h fun K hK => ?_; simp (disch := omega) [go_sem, *, wrap64_id, upd_ne, mk3_true, flatten_replicate_one, stepK_if, ilt_true, ilt_false, ile_true, ile_false]) | (refine ac_draw_h mixed (by kernel_rfl) fun K hK => ?_; simp (disch := omega) [go_sem, *, wrap64_id, upd_ne, mk3_true, flatten_replicate_one, stepK_if, ilt_true, ilt_false, ile_true, ile_false]) | (apply Hide.out hK; clear hK K; try with_reducible dsimp only [thenA]) | (apply Hide.out ht; clear ht hf Kt Kf) | (apply Hide.out hf; clear ht hf Kt Kf) | (clear hK K; apply Hide.out hK; clear hK K; try with_reducible dsimp only [thenA]) | (clear hK K; clear hK K; apply Hide.out hK; clear hK K; try with_reducible dsimp only [thenA]) | (refine ac_block ?_) | (refine ac_skip ?_; simp only [thenA, blockA]) | (refine ac_exit ?_; simp only [thenA, blockA, if_true, if_false, Nat.reduceEqDiff]) | (with_reducible show nextK _ _ _ _ _ _ _; simp (disch := omega) [go_sem, *, wrap64_id, upd_ne, mk3_true, flatten_replicate_one, stepK_if, ilt_true, ilt_false, ile_true, ile_false]) | (refine wantK_split (fun hc => ?_) (fun hc => ?_) <;> (try simp only [Bool.not_eq_true', Bool.not_eq_false', Bool.not_eq_eq_eq_not, Bool.not_true, Bool.not_false, decide_eq_true_eq, decide_eq_false_iff_not, Int.not_lt, Int.not_le] at hc) <;> (try (exfalso; omega)) <;> (try simp (disch := omega) [go_sem, *, wrap64_id, upd_ne, mk3_true, flatten_replicate_one, stepK_if, ilt_true, ilt_false, ile_true, ile_false])) | (refine ac_cond_h fun Kt Kf ht hf => ?_; simp (disch := omega) [go_sem, *, wrap64_id, upd_ne, mk3_true, flatten_replicate_one, stepK_if, ilt_true, ilt_false, ile_true, ile_false]; try (refine ⟨fun hc => ?_, fun hc => ?_⟩ <;> try (exfalso; omega))))
        refine hK3.out _ ?_
        clear hK3 K3
        dsimp only [thenA]
        refine hK.out _ ?_
        clear hK K
        repeat' (first | (refine ac_seq_h fun K hK => ?_) | (refine ac_region_h fun K hK => ?_; simp (disch := omega) [go_sem, *, wrap64_id]) | (refine ac_draw_h mixed (by kernel_rfl) fun K hK => ?_; simp (disch := omega) [go_sem, *, wrap64_id, upd_ne, mk3_true, flatten_replicate_one, stepK_if, ilt_true, ilt_false, ile_true, ile_false]) | (apply Hide.out hK; clear hK K; try with_reducible dsimp only [thenA]) | (apply Hide.out ht; clear ht hf Kt Kf) | (apply Hide.out hf; clear ht hf Kt Kf) | (clear hK K; apply Hide.out hK; clear hK K; try with_reducible dsimp only [thenA]) | (clear hK K; clear hK K; apply Hide.out hK; clear hK K; try with_reducible dsimp only [thenA]) | (refine ac_block ?_) | (refine ac_skip ?_; simp only [thenA, blockA]) | (refine ac_exit ?_; simp only [thenA, blockA, if_true, if_false, Nat.reduceEqDiff]) | (with_reducible show nextK _ _ _ _ _ _ _; simp (disch := omega) [go_sem, *, wrap64_id, upd_ne, mk3_true, flatten_replicate_one, stepK_if, ilt_true, ilt_false, ile_true, ile_false]) | (refine wantK_split (fun hc => ?_) (fun hc => ?_) <;> (try simp only [Bool.not_eq_true', Bool.not_eq_false', Bool.not_eq_eq_eq_not, Bool.not_true, Bool.not_false, decide_eq_true_eq, decide_eq_false_iff_not, Int.not_lt, Int.not_le] at hc) <;> (try (exfalso; omega)) <;> (try simp (disch := omega) [go_sem, *, wrap64_id, upd_ne, mk3_true, flatten_replicate_one, stepK_if, ilt_true, ilt_false, ile_true, ile_false])) | (refine ac_cond_h fun Kt Kf ht hf => ?_; simp (disch := omega) [go_sem, *]; try (refine ⟨fun hc => ?_, fun hc => ?_⟩ <;> try (exfalso; omega))))
        refine round_end (by simp [go_sem]) ?_ ⟨k + 1, _, by omega, by omega, rfl⟩ (by simp [intAt, go_sem]; omega)
        rw [hnF.out hfull]
        repeat (first | exact Sub.refl _ | refine Sub.upd ?_ (by rw [upd_ne _ _ _ _ (by omega)]; exact hb0.out _ (by omega)) _)
    · have hkl : k = l.length := by omega
      obtain ⟨L, hL⟩ : ∃ L, Hide (L = l.take r) := ⟨_, rfl⟩
      have e1 : ((l.take k).take r).map encMail = L.map encMail := by rw [hkl, List.take_length, hL.out]
      rw [e1]
      clear e1
      replace hkl : Hide _ := hkl
      repeat' (first | (refine ac_seq_h fun K hK => ?_) | (refine ac_region_h fun K hK => ?_; simp (disch := omega) [go_sem, *, ilt_false, aClose]) | (refine ac_draw_h mixed (by kernel_rfl) fun K hK => ?_; simp (disch := omega) [go_sem, *, wrap64_id, upd_ne, mk3_true, flatten_replicate_one, stepK_if, ilt_true, ilt_false, ile_true, ile_false, aClose]) | (apply Hide.out hK; clear hK K; try with_reducible dsimp only [thenA]) | (apply Hide.out ht; clear ht hf Kt Kf) | (apply Hide.out hf; clear ht hf Kt Kf) | (clear hK K; apply Hide.out hK; clear hK K; try with_reducible dsimp only [thenA]) | (clear hK K; clear hK K; apply Hide.out hK; clear hK K; try with_reducible dsimp only [thenA]) | (refine ac_block ?_) | (refine ac_skip ?_; simp only [thenA, blockA]) | (refine ac_exit ?_; simp only [thenA, blockA, if_true]) | (with_reducible show nextK _ _ _ _ _ _ _; simp (disch := omega) [go_sem, *, wrap64_id, upd_ne, mk3_true, flatten_replicate_one, stepK_if, ilt_true, ilt_false, ile_true, ile_false, aClose]) | (refine wantK_split (fun hc => ?_) (fun hc => ?_) <;> (try simp only [Bool.not_eq_true', Bool.not_eq_false', Bool.not_eq_eq_eq_not, Bool.not_true, Bool.not_false, decide_eq_true_eq, decide_eq_false_iff_not, Int.not_lt, Int.not_le] at hc) <;> (try (exfalso; omega)) <;> (try simp (disch := omega) [go_sem, *, wrap64_id, upd_ne, mk3_true, flatten_replicate_one, stepK_if, ilt_true, ilt_false, ile_true, ile_false, aClose])) | (refine ac_cond_h fun Kt Kf ht hf => ?_; simp (disch := omega) [go_sem, *]; try (refine ⟨fun hc => ?_, fun hc => ?_⟩ <;> try (exfalso; omega))))
      have hL1 : L.length ≤ r := by rw [hL.out, List.length_take]; omega
      have hL2 : Hide (putW w l = { w with mails := w.mails ++ stamp w.last L, last := w.last + L.length }) := by rw [Hide, putW, ← hr.out, ← hL.out]
      have hcp : N .p ≠ c := by omega
      refine ac_loop_wk (fun s' => ∃ (j n1 q1 : Nat) (V1 : AV) (H : AHeap), c < n1 ∧ j ≤ L.length ∧ H c = some (.chan r ((L.drop j).map encMail) true) ∧
          WRep { w with mails := w.mails ++ stamp w.last (L.take j), last := w.last + j } (setq N q1) V1 H ∧ (q1 = N .q ∨ n ≤ q1) ∧ q1 < n1 ∧ q1 ≠ c ∧ (∀ k, k < n → ¬ own w.st N k → H k = h k) ∧ s' = ⟨50, [(0, .ptr (N .p) 0), (24, .chan c)], H, n1⟩)
        (fun s => match s.h c with | some (.chan _ b _) => b.length | _ => 0) ?_ ?_
      · refine loop_start (by simp [go_sem]) (Sub.refl _) ⟨0, _, N .q, V, _, by omega, by omega, by rw [upd_same]; rfl, ?_, .inl rfl, by have := hown.out _ ⟨.q, trivial, rfl⟩; omega, by have := hown.out _ ⟨.q, trivial, rfl⟩; omega, fun k hk hk2 => ?_, rfl⟩
        · have e0 : setq N (N .q) = N := by funext s; cases s <;> rfl
          rw [e0]
          have : ({ w with mails := w.mails ++ stamp w.last (L.take 0), last := w.last + ((0 : Nat) : Int) } : Wd) = w := by simp [stamp]
          rw [this]
          refine R.congr fun k hk => ?_
          have := hown.out k hk
          rw [upd_ne _ _ _ _ (by omega), upd_ne _ _ _ _ (by omega)]
        · rw [upd_ne _ _ _ _ (by omega), upd_ne _ _ _ _ (by omega)]
      · rintro s' ⟨j, n1, q1, V1, H, hn1, hj, hHc, RH, hq1, hq2, hq3, hfr, rfl⟩
        have hp1 : H (N .p) = some (.cells [iv .i64 w.st, iv .i64 w.wait, iv .i64 w.tick, iv .i64 (w.last + j), .map (N .map), V1]) := RH.hd
        have hml : MailsAt q1 (w.mails ++ stamp w.last (L.take j)) V1 H := RH.ml
        have hqp : q1 ≠ N .p := fun e => by
          rcases hq1 with h1 | h1
          · have := R.inj .q .p trivial trivial (by rw [← h1, e]); cases this
          · omega
        refine ac_seq_h fun K hK => ?_
        refine ac_recv_h c r ((L.drop j).map encMail) rfl rfl rfl rfl (by simp [go_sem]) hHc chanElt94 zerOf36 (fun x rr hx K3 hK3 => ?_) (fun hx K3 hK3 => ?_)
        · have hjl : j < L.length := by
            rcases Nat.lt_or_ge j L.length with h1 | h1
            · exact h1
            · rw [List.drop_of_length_le h1] at hx; cases hx
          obtain ⟨m, hm1, hm2, hm3⟩ := at_k hjl
          rw [hm3] at hx
          simp only [List.map_cons, List.cons.injEq] at hx
          obtain ⟨rfl, rfl⟩ := hx
          replace hml : Hide _ := hml
          simp (disch := omega) [go_sem, *]
          repeat' (first | (refine ac_seq_h fun K hK => ?_) | (refine ac_region_h fun K hK => ?_; simp (disch := omega) [go_sem, *, wrap64_id, upd_ne, mk3_true, flatten_replicate_one, stepK_if, ilt_true, ilt_false, ile_true, ile_false]) | (refine ac_draw_h mixed (by kernel_rfl) fun K hK => ?_; simp (disch := omega) [go_sem, *, wrap64_id, upd_ne, mk3_true, flatten_replicate_one, stepK_if, ilt_true, ilt_false, ile_true, ile_false]) | (apply Hide.out hK; clear hK K; try with_reducible dsimp only [thenA]) | (apply Hide.out ht; clear ht hf Kt Kf) | (apply Hide.out hf; clear ht hf Kt Kf) | (clear hK K; apply Hide.out hK; clear hK K; try with_reducible dsimp only [thenA]) | (clear hK K; clear hK K; apply Hide.out hK; clear hK K; try with_reducible dsimp only [thenA]) | (refine ac_block ?_) | (refine ac_skip ?_; simp only [thenA, blockA]) | (refine ac_exit ?_; simp only [thenA, blockA, if_true, if_false, Nat.reduceEqDiff]) | (with_reducible show nextK _ _ _ _ _ _ _; simp (disch := omega) [go_sem, *, wrap64_id, upd_ne, mk3_true, flatten_replicate_one, stepK_if, ilt_true, ilt_false, ile_true, ile_false]) | (refine wantK_split (fun hc => ?_) (fun hc => ?_) <;> (try simp only [Bool.not_eq_true', Bool.not_eq_false', Bool.not_eq_eq_eq_not, Bool.not_true, Bool.not_false, decide_eq_true_eq, decide_eq_false_iff_not, Int.not_lt, Int.not_le] at hc) <;> (try (exfalso; omega)) <;> (try simp (disch := omega) [go_sem, *, wrap64_id, upd_ne, mk3_true, flatten_replicate_one, stepK_if, ilt_true, ilt_false, ile_true, ile_false])) | (refine ac_cond_h fun Kt Kf ht hf => ?_; simp (disch := omega) [go_sem, *, wrap64_id, upd_ne, mk3_true, flatten_replicate_one, stepK_if, ilt_true, ilt_false, ile_true, ile_false]; try (refine ⟨fun hc => ?_, fun hc => ?_⟩ <;> try (exfalso; omega))))
          refine hK3.out _ ?_
          clear hK3 K3
          dsimp only [thenA]
          refine hK.out _ ?_
          clear hK K
          repeat' (first | (refine ac_seq_h fun K hK => ?_) | (refine ac_region_h fun K hK => ?_; simp (disch := omega) [go_sem, *, wrap64_id, upd_ne]) | (refine ac_draw_h mixed (by kernel_rfl) fun K hK => ?_; simp (disch := omega) [go_sem, *, upd_ne]) | (apply Hide.out hK; clear hK K; try with_reducible dsimp only [thenA]) | (apply Hide.out ht; clear ht hf Kt Kf) | (apply Hide.out hf; clear ht hf Kt Kf) | (clear hK K; apply Hide.out hK; clear hK K; try with_reducible dsimp only [thenA]) | (clear hK K; clear hK K; apply Hide.out hK; clear hK K; try with_reducible dsimp only [thenA]) | (refine ac_block ?_) | (refine ac_skip ?_; simp only [thenA]) | (refine ac_exit ?_; simp only [thenA, blockA, if_true, if_false, Nat.reduceEqDiff]) | (with_reducible show nextK _ _ _ _ _ _ _; simp (disch := omega) [go_sem, *, wrap64_id, upd_ne, mk3_true, flatten_replicate_one, stepK_if, ilt_true, ilt_false, ile_true, ile_false]) | (refine wantK_split (fun hc => ?_) (fun hc => ?_) <;> (try simp only [Bool.not_eq_true', Bool.not_eq_false', Bool.not_eq_eq_eq_not, Bool.not_true, Bool.not_false, decide_eq_true_eq, decide_eq_false_iff_not, Int.not_lt, Int.not_le] at hc) <;> (try (exfalso; omega)) <;> (try simp (disch := omega) [go_sem, *, wrap64_id, upd_ne, mk3_true, flatten_replicate_one, stepK_if, ilt_true, ilt_false, ile_true, ile_false])) | (refine ac_cond_h fun Kt Kf ht hf => ?_; simp (disch := omega) [go_sem, *]; try (refine ⟨fun hc => ?_, fun hc => ?_⟩ <;> try (exfalso; omega))))
          refine ap_mail_K { m with id := w.last + j + 1 } (q := q1) (l := w.mails ++ stamp w.last (L.take j)) (MailsAt.congr hml.out (by simp (disch := omega) only [upd_ne])) (by rw [List.length_append, stamp_length, List.length_take]; omega) (fun V' h' q' hs1 hs2 hm' hf' hq' => ?_)
          have hfr2 : Hide (∀ k, k ≠ q1 → k ≠ n1 + 2 + 3 + 8 + 6 + 7 → k ≠ c → k ≠ n1 + 2 + 1 → k ≠ N .p → h' k = H k) := fun k h1 h2 h3 h4 h5 => by
            rw [hf' k h1 h2]; simp (disch := omega) only [upd_ne]
          have hc' : h' c = some (.chan r ((L.drop (j + 1)).map encMail) true) := by
            rw [hf' c (by omega) (by omega)]; simp (disch := omega) only [upd_ne, upd_same]
            simp
          have hp' : h' (N .p) = some (.cells [iv .i64 w.st, iv .i64 w.wait, iv .i64 w.tick, iv .i64 (w.last + j + 1), .map (N .map), V1]) := by
            rw [hf' (N .p) (by omega) (by omega)]; simp (disch := omega) only [upd_ne, upd_same]
          have ht' : h' (n1 + 2 + 1) = some (.cells [iv .i64 (w.last + j + 1), iv .i64 m.kind, iv .i64 m.fr, iv .i64 m.to, iv .i64 m.num, sv m.text]) := by
            rw [hf' _ (by omega) (by omega)]; simp (disch := omega) only [upd_same]
          clear hs1 hs2 hf'
          replace hHc : Hide _ := hHc; replace hp1 : Hide _ := hp1
          rcases hm' with ⟨_, hnil, _⟩ | ⟨x2, rfl, hm2', hx2⟩
          · simp at hnil
          have hlen' : (w.mails ++ stamp w.last (L.take j) ++ [{ m with id := w.last + j + 1 }]).length = w.mails.length + j + 1 := by
            rw [List.length_append, List.length_append, stamp_length, List.length_take]; simp; omega
          rw [hlen']
          replace hm2' : Hide _ := hm2'
          replace hlen' : Hide _ := hlen'
          replace hx2 : Hide _ := hx2; replace RH : Hide _ := RH; replace hfr : Hide _ := hfr
          repeat' (first | (refine ac_seq_h fun K hK => ?_) | (refine ac_region_h fun K hK => ?_; simp (disch := omega) [go_sem, *, wrap64_id, upd_ne, mk3_true, flatten_replicate_one, stepK_if, ilt_true, ilt_false, ile_true, ile_false]) | (refine ac_draw_h mixed (by kernel_rfl) fun K hK => ?_; simp (disch := omega) [go_sem, *, wrap64_id, upd_ne, mk3_true, flatten_replicate_one, stepK_if, ilt_true, ilt_false, ile_true, ile_false]) | (apply Hide.out hK; clear hK K; try with_reducible dsimp only [thenA]) | (apply Hide.out ht; clear ht hf Kt Kf) | (apply Hide.out hf; clear ht hf Kt Kf) | (clear hK K; apply Hide.out hK; clear hK K; try with_reducible dsimp only [thenA]) | (clear hK K; clear hK K; apply Hide.out hK; clear hK K; try with_reducible dsimp only [thenA]) | (refine ac_block ?_) | (refine ac_skip ?_; simp only [thenA, blockA]) | (refine ac_exit ?_; simp only [thenA, blockA, if_true, if_false, Nat.reduceEqDiff]) | (with_reducible show nextK _ _ _ _ _ _ _; simp (disch := omega) [go_sem, *]) | (refine wantK_split (fun hc => ?_) (fun hc => ?_) <;> (try simp only [Bool.not_eq_true', Bool.not_eq_false', Bool.not_eq_eq_eq_not, Bool.not_true, Bool.not_false, decide_eq_true_eq, decide_eq_false_iff_not, Int.not_lt, Int.not_le] at hc) <;> (try (exfalso; omega)) <;> (try simp (disch := omega) [go_sem, *, wrap64_id, upd_ne, mk3_true, flatten_replicate_one, stepK_if, ilt_true, ilt_false, ile_true, ile_false])) | (refine ac_cond_h fun Kt Kf ht hf => ?_; simp (disch := omega) [go_sem, *, wrap64_id, upd_ne, mk3_true, flatten_replicate_one, stepK_if, ilt_true, ilt_false, ile_true, ile_false]; try (refine ⟨fun hc => ?_, fun hc => ?_⟩ <;> try (exfalso; omega))))
          dsimp only [blockA, thenA]
          have hne3 : ∀ s : Sl, s.ok w.st → s ≠ .p → s ≠ .q → setq N q1 s ≠ q1 ∧ setq N q1 s ≠ n1 + 2 + 3 + 8 + 6 + 7 ∧ setq N q1 s ≠ c ∧ setq N q1 s ≠ n1 + 2 + 1 ∧ setq N q1 s ≠ N .p := fun s hs0 h1 h2 => by
            have e0 := setq_ne (N := N) (q := q1) h2
            have e1 := hown.out _ ⟨s, hs0, rfl⟩
            rw [e0]
            refine ⟨fun e => ?_, by omega, by omega, by omega, fun e => h1 (R.inj s .p hs0 trivial e)⟩
            rcases hq1 with h3 | h3
            · exact h2 (R.inj s .q hs0 trivial (by rw [e, h3]))
            · omega
          have hq4 : q' < n1 + 2 + 3 + 8 + 6 + 11 := by rcases hq' with rfl | rfl <;> omega
          have hq5 : q' ≠ c := by rcases hq' with rfl | rfl <;> omega
          have hq6 : q' ≠ N .p := by rcases hq' with rfl | rfl <;> omega
          have hq7 : q' = N .q ∨ n ≤ q' := by
            rcases hq' with rfl | rfl
            · exact hq1
            · exact .inr (by omega)
          refine round_end (s' := [(0, .ptr (N .p) 0), (24, .chan c)]) (by simp [go_sem]) (Sub.refl _) ⟨j + 1, _, q', .slc q' 0 (w.mails.length + j + 1) 6, _, ?_, by omega, ?_, ?_, hq7, ?_, hq5, fun k hk hk2 => ?_, rfl⟩ ?_
          · omega
          · rw [upd_ne _ _ _ _ (by omega)]; exact hc'
          · have h1 := RH.out.row (h' := h'.upd (N .p) (some (.cells [iv .i64 w.st, iv .i64 w.wait, iv .i64 w.tick, iv .i64 (w.last + j + 1), .map (N .map), .slc q' 0 (w.mails.length + j + 1) 6]))) (q' := q') (V' := .slc q' 0 (w.mails.length + j + 1) 6) (l := w.mails ++ stamp w.last (L.take j) ++ [{ m with id := w.last + j + 1 }]) (k := w.last + j + 1) (t := w.tick) (upd_same _ _ _) (.inr ⟨x2, by rw [hlen'.out], by rw [upd_ne _ _ _ _ hq6]; exact hm2'.out, hx2.out⟩) (fun s hs0 h1 h2 => ?_) ?_
            · have e1 : setq (setq N q1) q' = setq N q' := by funext s; cases s <;> rfl
              rw [e1] at h1
              have e2 : stamp w.last (L.take (j + 1)) = stamp w.last (L.take j) ++ [{ m with id := w.last + j + 1 }] := by
                rw [List.take_succ_eq_append_getElem hjl, hm1, stamp_append, List.length_take, Nat.min_eq_left (by omega)]; rfl
              have e3 : w.last + ((j + 1 : Nat) : Int) = w.last + j + 1 := by omega
              rw [e2, e3, ← List.append_assoc]
              exact h1
            · obtain ⟨a1, a2, a3, a4, a5⟩ := hne3 s hs0 h1 h2
              rw [upd_ne _ _ _ _ a5]; exact hfr2.out _ a1 a2 a3 a4 a5
            · rcases hq' with rfl | rfl
              · exact .inl rfl
              · refine .inr fun s hs0 => ?_
                by_cases h1 : s = .q
                · subst h1; show q1 ≠ _; omega
                · rw [setq_ne h1]; have := hown.out _ ⟨s, hs0, rfl⟩; omega
          · exact hq4
          · have h1 : k ≠ N .p := fun e => hk2 ⟨.p, trivial, e.symm⟩
            have h2 : k ≠ q1 := fun e => by
              rcases hq1 with h3 | h3
              · exact hk2 ⟨.q, trivial, by rw [← h3, e]⟩
              · omega
            rw [upd_ne _ _ _ _ h1, hfr2.out k h2 (by omega) (by omega) (by omega) h1]
            exact hfr.out k hk hk2
          · simp only [upd_ne _ _ _ _ (show c ≠ N .p by omega), hc', hHc.out, List.length_map, List.length_drop]
            omega
        · simp (disch := omega) [go_sem, *]
          repeat' (first | (refine ac_seq_h fun K hK => ?_) | (refine ac_region_h fun K hK => ?_; simp (disch := omega) [go_sem, *, wrap64_id, upd_ne, mk3_true, flatten_replicate_one, stepK_if, ilt_true, ilt_false, ile_true, ile_false]) | (refine ac_draw_h mixed (by kernel_rfl) fun K hK => ?_; simp (disch := omega) [go_sem, *, wrap64_id, upd_ne, mk3_true, flatten_replicate_one, stepK_if, ilt_true, ilt_false, ile_true, ile_false]) | (apply Hide.out hK; clear hK K; try with_reducible dsimp only [thenA]) | (apply Hide.out ht; clear ht hf Kt Kf) | (apply Hide.out hf; clear ht hf Kt Kf) | (clear hK K; apply Hide.out hK; clear hK K; try with_reducible dsimp only [thenA]) | (clear hK K; clear hK K; apply Hide.out hK; clear hK K; try with_reducible dsimp only [thenA]) | (refine ac_block ?_) | (refine ac_skip ?_; simp only [thenA, blockA]) | (refine ac_exit ?_; simp only [thenA, blockA, if_true, if_false, Nat.reduceEqDiff]) | (with_reducible show nextK _ _ _ _ _ _ _; simp (disch := omega) [go_sem, *, wrap64_id, upd_ne, mk3_true, flatten_replicate_one, stepK_if, ilt_true, ilt_false, ile_true, ile_false]) | (refine wantK_split (fun hc => ?_) (fun hc => ?_) <;> (try simp only [Bool.not_eq_true', Bool.not_eq_false', Bool.not_eq_eq_eq_not, Bool.not_true, Bool.not_false, decide_eq_true_eq, decide_eq_false_iff_not, Int.not_lt, Int.not_le] at hc) <;> (try (exfalso; omega)) <;> (try simp (disch := omega) [go_sem, *, wrap64_id, upd_ne, mk3_true, flatten_replicate_one, stepK_if, ilt_true, ilt_false, ile_true, ile_false])) | (refine ac_cond_h fun Kt Kf ht hf => ?_; simp (disch := omega) [go_sem, *, wrap64_id, upd_ne, mk3_true, flatten_replicate_one, stepK_if, ilt_true, ilt_false, ile_true, ile_false]; try (refine ⟨fun hc => ?_, fun hc => ?_⟩ <;> try (exfalso; omega))))
          refine hK3.out _ ?_
          clear hK3 K3
          dsimp only [thenA]
          refine hK.out _ ?_
          clear hK K
          have hjl : L.length ≤ j := by
            have h1 : (L.drop j).length = 0 := by
              have := congrArg List.length hx
              simpa using this
            rw [List.length_drop] at h1; omega
          replace RH : Hide _ := RH; replace hml : Hide _ := hml; replace hfr : Hide _ := hfr
          repeat' (first | (refine ac_seq_h fun K hK => ?_) | (refine ac_region_h fun K hK => ?_; simp (disch := omega) [go_sem, *, wrap64_id, upd_ne, mk3_true, flatten_replicate_one, stepK_if, ilt_true, ilt_false, ile_true, ile_false]) | (refine ac_draw_h mixed (by kernel_rfl) fun K hK => ?_; simp (disch := omega) [go_sem, *, wrap64_id, upd_ne, mk3_true, flatten_replicate_one, stepK_if, ilt_true, ilt_false, ile_true, ile_false]) | (apply Hide.out hK; clear hK K; try with_reducible dsimp only [thenA]) | (apply Hide.out ht; clear ht hf Kt Kf) | (apply Hide.out hf; clear ht hf Kt Kf) | (clear hK K; apply Hide.out hK; clear hK K; try with_reducible dsimp only [thenA]) | (clear hK K; clear hK K; apply Hide.out hK; clear hK K; try with_reducible dsimp only [thenA]) | (refine ac_block ?_) | (refine ac_skip ?_; simp only [thenA, blockA]) | (refine ac_exit ?_; simp only [thenA, blockA, if_true]) | (with_reducible show nextK _ _ _ _ _ _ _; simp (disch := omega) [go_sem, *, wrap64_id, upd_ne, mk3_true, flatten_replicate_one, stepK_if, ilt_true, ilt_false, ile_true, ile_false]) | (refine wantK_split (fun hc => ?_) (fun hc => ?_) <;> (try simp only [Bool.not_eq_true', Bool.not_eq_false', Bool.not_eq_eq_eq_not, Bool.not_true, Bool.not_false, decide_eq_true_eq, decide_eq_false_iff_not, Int.not_lt, Int.not_le] at hc) <;> (try (exfalso; omega)) <;> (try simp (disch := omega) [go_sem, *, wrap64_id, upd_ne, mk3_true, flatten_replicate_one, stepK_if, ilt_true, ilt_false, ile_true, ile_false])) | (refine ac_cond_h fun Kt Kf ht hf => ?_; simp (disch := omega) [go_sem, *]; try (refine ⟨fun hc => ?_, fun hc => ?_⟩ <;> try (exfalso; omega))))
          refine ⟨by simp, _, rfl, ?_⟩
          refine ret_id ?_
          refine hK0.out _ _ ⟨setq N q1, V1, ?_, ⟨rfl, rfl, fun _ _ => rfl⟩, fun k hk => ?_, by omega, hfr.out⟩
          · have e1 : L.take j = L := List.take_of_length_le (by omega)
            have e2 : j = L.length := by omega
            have := RH.out
            rw [e1, e2] at this
            rw [hL2.out]
            exact this
          · obtain ⟨s, hs0, rfl⟩ := hk
            by_cases h1 : s = .q
            · subst h1
              show (own w.st N q1 ∨ n ≤ q1) ∧ q1 < _
              refine ⟨?_, by omega⟩
              rcases hq1 with h3 | h3
              · exact .inl ⟨.q, trivial, h3.symm⟩
              · exact .inr h3
            · rw [setq_ne h1]
              have hs1 : s.ok w.st := hs0
              have := hown.out _ ⟨s, hs1, rfl⟩
              exact ⟨.inl ⟨s, hs1, rfl⟩, by omega⟩
end Go.AM

namespace Go.AM
open Go.Proofs Wl
set_option maxRecDepth 10000
set_option maxHeartbeats 4000000
theorem idxI_find (w : Wd) (id : Int) : idxI w.mails (fun m => m.id == id) = match findM w id with | some i => (i : Int) | none => -1 := rfl
theorem find_lt {w : Wd} {id : Int} {i : Nat} (h : findM w id = some i) : i < w.mails.length := by
  have := List.findIdx?_eq_some_iff_getElem.1 h
  exact this.1
theorem take_spec {w : Wd} {N : Sl → Nat} {V : AV} {h : AHeap} (R : WRep w N V h) (hl : w.mails.length ≤ 200) (id : Int) (n : Nat) (hown : ∀ k, own w.st N k → k < n) (K0 : AV → AHeap → Nat → Prop)
    (hK0 : findM w id = none → ∀ h' n', WTurn w N h n w h' n' → K0 (.tup [.agg zMail, bv false]) h' n')
    (hK1 : ∀ i m, findM w id = some i → w.mails[i]? = some m → ∀ h' n', WTurn w N h n { w with mails := w.mails.eraseIdx i } h' n' → K0 (.tup [encMail m, bv true]) h' n') :
    ACalls Try.prog 60 [.ptr (N .p) 0, iv .i64 id] h n K0 := by
  refine ACalls.entry (by kernel_rfl) fun hb _ => calls_of Try.func60 rfl (by kernel_rfl) (by simp [Try.ntmps60]) ?_
  have hp := R.hd
  have hpn : N .p < n := hown _ ⟨.p, trivial, rfl⟩
  have hidx := fun H b (hV : MailsAt (N .q) w.mails V H) (hbb : H n = some (.cells [iv .i64 id])) => index_at hV (by omega) (fun m => m.id == id) 63 [.ptr n 0] (fun m n' => clo_take m id hbb n') b
  replace hK0 : Hide _ := hK0; replace hK1 : Hide _ := hK1; replace hown : Hide _ := hown; replace hidx : Hide _ := hidx
  repeat' (first | (refine ac_seq_h fun K hK => ?_) | (refine ac_region_h fun K hK => ?_; simp (disch := omega) [go_sem, *, upd_ne, Try.ntmps60]) | (refine ac_draw_h mixed (by kernel_rfl) fun K hK => ?_; simp (disch := omega) [go_sem, *, wrap64_id, upd_ne, mk3_true, flatten_replicate_one, stepK_if, ilt_true, ilt_false, ile_true, ile_false, Try.ntmps60]) | (apply Hide.out hK; clear hK K; try with_reducible dsimp only [thenA]) | (apply Hide.out ht; clear ht hf Kt Kf) | (apply Hide.out hf; clear ht hf Kt Kf) | (clear hK K; apply Hide.out hK; clear hK K; try with_reducible dsimp only [thenA]) | (clear hK K; clear hK K; apply Hide.out hK; clear hK K; try with_reducible dsimp only [thenA]) | (refine ac_block ?_) | (refine ac_skip ?_; simp only [thenA, blockA]) | (refine ac_exit ?_; simp only [thenA, blockA, if_true, if_false, Nat.reduceEqDiff]) | (with_reducible show nextK _ _ _ _ _ _ _; simp (disch := omega) [go_sem, *, wrap64_id, upd_ne, mk3_true, flatten_replicate_one, stepK_if, ilt_true, ilt_false, ile_true, ile_false, Try.ntmps60]) | (refine wantK_split (fun hc => ?_) (fun hc => ?_) <;> (try simp only [Bool.not_eq_true', Bool.not_eq_false', Bool.not_eq_eq_eq_not, Bool.not_true, Bool.not_false, decide_eq_true_eq, decide_eq_false_iff_not, Int.not_lt, Int.not_le] at hc) <;> (try (exfalso; omega)) <;> (try simp (disch := omega) [go_sem, *, wrap64_id, upd_ne, mk3_true, flatten_replicate_one, stepK_if, ilt_true, ilt_false, ile_true, ile_false, Try.ntmps60])) | (refine ac_cond_h fun Kt Kf ht hf => ?_; simp (disch := omega) [go_sem, *, wrap64_id, upd_ne, mk3_true, flatten_replicate_one, stepK_if, ilt_true, ilt_false, ile_true, ile_false, Try.ntmps60]; try (refine ⟨fun hc => ?_, fun hc => ?_⟩ <;> try (exfalso; omega))))
  refine APureAt.call (hidx.out _ _ (MailsAt.congr R.ml (by have := hown.out _ ⟨.q, trivial, rfl⟩; simp (disch := omega) only [upd_ne])) (by simp (disch := omega) only [upd_ne, upd_same])) ?_
  rw [idxI_find]
  cases hf : findM w id with
  | none =>
    simp only
    replace hf : Hide _ := hf
    repeat' (first | (refine ac_seq_h fun K hK => ?_) | (refine ac_region_h fun K hK => ?_; simp (disch := omega) [go_sem, *, ilt_true]) | (refine ac_draw_h mixed (by kernel_rfl) fun K hK => ?_; simp (disch := omega) [go_sem, *, wrap64_id, upd_ne, mk3_true, flatten_replicate_one, stepK_if, ilt_true, ilt_false, ile_true, ile_false, Try.ntmps60]) | (apply Hide.out hK; clear hK K; try with_reducible dsimp only [thenA]) | (apply Hide.out ht; clear ht hf Kt Kf) | (apply Hide.out hf; clear ht hf Kt Kf) | (clear hK K; apply Hide.out hK; clear hK K; try with_reducible dsimp only [thenA]) | (clear hK K; clear hK K; apply Hide.out hK; clear hK K; try with_reducible dsimp only [thenA]) | (refine ac_block ?_) | (refine ac_skip ?_; simp only [thenA, blockA]) | (refine ac_exit ?_; simp only [thenA, blockA, if_true, if_false, Nat.reduceEqDiff]) | (with_reducible show nextK _ _ _ _ _ _ _; simp (disch := omega) [go_sem, *]) | (refine wantK_split (fun hc => ?_) (fun hc => ?_) <;> (try simp only [Bool.not_eq_true', Bool.not_eq_false', Bool.not_eq_eq_eq_not, Bool.not_true, Bool.not_false, decide_eq_true_eq, decide_eq_false_iff_not, Int.not_lt, Int.not_le] at hc) <;> (try (exfalso; omega)) <;> (try simp (disch := omega) [go_sem, *, wrap64_id, upd_ne, mk3_true, flatten_replicate_one, stepK_if, ilt_true, ilt_false, ile_true, ile_false, Try.ntmps60])) | (refine ac_cond_h fun Kt Kf ht hf => ?_; simp (disch := omega) [go_sem, *]; try (refine ⟨fun hc => ?_, fun hc => ?_⟩ <;> try (exfalso; omega))))
    refine ac_ret ?_
    refine ⟨by simp, _, (by simp (disch := omega) [go_sem] <;> rfl), ?_⟩
    refine ret_id ?_
    refine hK0.out hf.out _ _ ⟨N, V, R.congr fun k hk => ?_, .rfl, fun k hk => ⟨.inl hk, ?_⟩, by simp only; omega, fun k hk _ => ?_⟩
    · have := hown.out k hk
      simp (disch := omega) only [upd_ne]
    · have := hown.out k hk; simp only; omega
    · simp (disch := omega) only [upd_ne]
  | some i =>
    simp only
    have hi := find_lt hf
    obtain ⟨m, hm1, hm2, _⟩ := at_k hi
    replace hf : Hide _ := hf
    rcases R.ml with ⟨_, e2, _⟩ | ⟨x, rfl, e2, e3⟩
    · rw [e2] at hi; simp at hi
    have hqn : N .q < n := hown.out _ ⟨.q, trivial, rfl⟩
    have hqp : N .q ≠ N .p := fun e => by have := R.inj .q .p trivial trivial e; cases this
    obtain ⟨C, hC⟩ : ∃ C, Hide (C = flat (w.mails.map encMail) ++ x) := ⟨_, rfl⟩
    have e2' := e2
    rw [← hC.out] at e2
    have hCl : C.length = w.mails.length * 6 + x.length := by rw [hC.out, List.length_append, mails_len]
    have hC6 : 6 ≤ C.length - i * 6 := by omega
    have hT : List.take 6 (List.drop (i * 6) C) = [iv .i64 m.id, iv .i64 m.kind, iv .i64 m.fr, iv .i64 m.to, iv .i64 m.num, sv m.text] := by
      rw [hC.out, drop_mail x hm2]; rfl
    replace e2' : Hide _ := e2'
    replace hCl : Hide _ := hCl; replace R : Hide _ := R
    repeat' (first | (refine ac_seq_h fun K hK => ?_) | (refine ac_region_h fun K hK => ?_; simp (disch := omega) [go_sem, *, wrap64_id, upd_ne, ilt_true, ilt_false, ile_true]) | (refine ac_draw_h mixed (by kernel_rfl) fun K hK => ?_; simp (disch := omega) [go_sem, *, wrap64_id, upd_ne, mk3_true, flatten_replicate_one, stepK_if, ilt_true, ilt_false, ile_true, ile_false, Try.ntmps60]) | (apply Hide.out hK; clear hK K; try with_reducible dsimp only [thenA]) | (apply Hide.out ht; clear ht hf Kt Kf) | (apply Hide.out hf; clear ht hf Kt Kf) | (clear hK K; apply Hide.out hK; clear hK K; try with_reducible dsimp only [thenA]) | (clear hK K; clear hK K; apply Hide.out hK; clear hK K; try with_reducible dsimp only [thenA]) | (refine ac_block ?_) | (refine ac_skip ?_; simp only [thenA]) | (refine ac_exit ?_; simp only [thenA, blockA, if_true, if_false, Nat.reduceEqDiff]) | (with_reducible show nextK _ _ _ _ _ _ _; simp (disch := omega) [go_sem, *]) | (refine wantK_split (fun hc => ?_) (fun hc => ?_) <;> (try simp only [Bool.not_eq_true', Bool.not_eq_false', Bool.not_eq_eq_eq_not, Bool.not_true, Bool.not_false, decide_eq_true_eq, decide_eq_false_iff_not, Int.not_lt, Int.not_le] at hc) <;> (try (exfalso; omega)) <;> (try simp (disch := omega) [go_sem, *, wrap64_id, upd_ne, mk3_true, flatten_replicate_one, stepK_if, ilt_true, ilt_false, ile_true, ile_false, Try.ntmps60])) | (refine ac_cond_h fun Kt Kf ht hf => ?_; simp (disch := omega) [go_sem, *]; try (refine ⟨fun hc => ?_, fun hc => ?_⟩ <;> try (exfalso; omega))))
    refine delete_spec (l := w.mails) (x := x) (i := i) (by simp (disch := omega) only [upd_ne]; exact e2'.out) hi (by omega) _ _ (fun n2 hn2 => ?_)
    obtain ⟨D, hD⟩ : ∃ D, Hide (D = flat ((w.mails.eraseIdx i).map encMail) ++ (zMail ++ x)) := ⟨_, rfl⟩
    rw [← hD.out]
    repeat' (first | (refine ac_seq_h fun K hK => ?_) | (refine ac_region_h fun K hK => ?_; simp (disch := omega) [go_sem, *, upd_ne]) | (refine ac_draw_h mixed (by kernel_rfl) fun K hK => ?_; simp (disch := omega) [go_sem, *, wrap64_id, upd_ne, mk3_true, flatten_replicate_one, stepK_if, ilt_true, ilt_false, ile_true, ile_false, Try.ntmps60]) | (apply Hide.out hK; clear hK K; try with_reducible dsimp only [thenA]) | (apply Hide.out ht; clear ht hf Kt Kf) | (apply Hide.out hf; clear ht hf Kt Kf) | (clear hK K; apply Hide.out hK; clear hK K; try with_reducible dsimp only [thenA]) | (clear hK K; clear hK K; apply Hide.out hK; clear hK K; try with_reducible dsimp only [thenA]) | (refine ac_block ?_) | (refine ac_skip ?_; simp only [thenA, blockA]) | (refine ac_exit ?_; simp only [thenA, blockA, if_true, if_false, Nat.reduceEqDiff]) | (with_reducible show nextK _ _ _ _ _ _ _; simp (disch := omega) [go_sem, *, upd_ne]) | (refine wantK_split (fun hc => ?_) (fun hc => ?_) <;> (try simp only [Bool.not_eq_true', Bool.not_eq_false', Bool.not_eq_eq_eq_not, Bool.not_true, Bool.not_false, decide_eq_true_eq, decide_eq_false_iff_not, Int.not_lt, Int.not_le] at hc) <;> (try (exfalso; omega)) <;> (try simp (disch := omega) [go_sem, *, wrap64_id, upd_ne, mk3_true, flatten_replicate_one, stepK_if, ilt_true, ilt_false, ile_true, ile_false, Try.ntmps60])) | (refine ac_cond_h fun Kt Kf ht hf => ?_; simp (disch := omega) [go_sem, *, wrap64_id, upd_ne, mk3_true, flatten_replicate_one, stepK_if, ilt_true, ilt_false, ile_true, ile_false, Try.ntmps60]; try (refine ⟨fun hc => ?_, fun hc => ?_⟩ <;> try (exfalso; omega))))
    refine ac_ret ?_
    refine ⟨by simp, _, (by simp (disch := omega) [go_sem] <;> rfl), ?_⟩
    refine ret_id ?_
    have hlen : (w.mails.eraseIdx i).length = w.mails.length - 1 := by rw [List.length_eraseIdx]; simp [hi]
    have hR := R.out
    have hrow := fun (h' : AHeap) hp' hm' hk' => hR.row (h' := h') (q' := N .q) (V' := .slc (N .q) 0 (w.mails.length - 1) 6) (l := w.mails.eraseIdx i) (k := w.last) (t := w.tick) hp' hm' hk' (.inl rfl)
    have e0 : setq N (N .q) = N := by funext s; cases s <;> rfl
    rw [e0] at hrow
    refine hK1.out i m hf.out hm2 _ _ ⟨N, _, hrow _ ?_ ?_ (fun s hs h1 h2 => ?_), .rfl, fun k hk => ⟨.inl hk, ?_⟩, by simp only; omega, fun k hk hk2 => ?_⟩
    · simp (disch := omega) only [upd_ne, upd_same]
    · refine .inr ⟨zMail ++ x, by rw [hlen], ?_, by simp; omega⟩
      simp (disch := omega) only [upd_ne, upd_same]
      rw [hD.out]
    · have h3 := hown.out _ ⟨s, hs, rfl⟩
      have h4 : N s ≠ N .p := fun e => h1 (hR.inj s .p hs trivial e)
      have h5 : N s ≠ N .q := fun e => h2 (hR.inj s .q hs trivial e)
      simp (disch := omega) only [upd_ne]
    · have h3 : own w.st N k := hk
      have := hown.out k h3; simp only; omega
    · have h4 : k ≠ N .p := fun e => hk2 ⟨.p, trivial, e.symm⟩
      have h5 : k ≠ N .q := fun e => hk2 ⟨.q, trivial, e.symm⟩
      simp (disch := omega) only [upd_ne]
end Go.AM
