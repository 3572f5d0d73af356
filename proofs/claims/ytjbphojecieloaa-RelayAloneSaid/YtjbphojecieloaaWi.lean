/- Rounds of a world, and two stations alone: the plain law. Conditions: as each theorem says. -/
import Derived.Test.YtjbphojecieloaaWg
namespace Wl
open Go.AM
def wt (m : Mail) : Nat := if m.kind = 1 then 2 else 1
def wts : List Mail → Nat
  | [] => 0
  | m :: r => wt m + wts r
theorem wts_append : ∀ (a b : List Mail), wts (a ++ b) = wts a + wts b
  | [], b => by simp [wts]
  | m :: r, b => by simp [wts, wts_append r b]; omega
theorem wts_erase : ∀ {l : List Mail} {i : Nat} {m : Mail}, l[i]? = some m → wts (l.eraseIdx i) + wt m = wts l
  | [], i, m, h => by simp at h
  | x :: r, 0, m, h => by simp at h; subst h; simp [wts]; omega
  | x :: r, i + 1, m, h => by
    have := wts_erase (l := r) (i := i) (m := m) (by simpa using h)
    simp [wts]; omega
theorem wts_le : ∀ (l : List Mail), wts l ≤ 2 * l.length
  | [] => by simp [wts]
  | m :: r => by
    have := wts_le r
    have : wt m ≤ 2 := by unfold wt; split <;> omega
    simp [wts]; omega
theorem wts_zero : ∀ {l : List Mail}, wts l = 0 → l = []
  | [], _ => rfl
  | m :: r, h => by
    have : 1 ≤ wt m := by unfold wt; split <;> omega
    simp [wts] at h; omega
theorem wts_stamp : ∀ (k : Int) (l : List Mail), wts (stamp k l) = wts l
  | _, [] => rfl
  | k, m :: r => by simp [stamp, wts, wts_stamp (k + 1) r, wt]
/-- a mail is found by its ID -/
theorem find_mem {w : Wd} {m : Mail} (hm : m ∈ w.mails) : ∃ i m', findM w m.id = some i ∧ w.mails[i]? = some m' ∧ m' ∈ w.mails := by
  cases h : findM w m.id with
  | none =>
    have := List.findIdx?_eq_none_iff.1 h m hm
    simp at this
  | some i =>
    have h2 := find_lt h
    exact ⟨i, w.mails[i], rfl, List.getElem?_eq_getElem h2, List.getElem_mem h2⟩
theorem mem_erase {l : List Mail} {i : Nat} {m z : Mail} (h : l[i]? = some m) (hz : z ∈ l) : z = m ∨ z ∈ l.eraseIdx i := by
  obtain ⟨j, hj⟩ := List.mem_iff_getElem?.1 hz
  by_cases e : j = i
  · subst e; rw [h] at hj; cases hj; exact .inl rfl
  · refine .inr (List.mem_iff_getElem?.2 ?_)
    rcases Nat.lt_or_ge j i with h1 | h1
    · exact ⟨j, by rw [List.getElem?_eraseIdx_of_lt h1]; exact hj⟩
    · exact ⟨j - 1, by rw [List.getElem?_eraseIdx_of_ge (by omega)]; rw [show j - 1 + 1 = j by omega]; exact hj⟩
/-- what a delivery does -/
structure Dst (w w' : Wd) (m : Mail) : Prop where
  st : w'.st = w.st
  wait : w'.wait = w.wait
  tick : w'.tick = w.tick
  wt : wts w'.mails + 1 = wts w.mails
  said : ∀ x y, (w'.tk x y).said = (w.tk x y).said
  heard : ∀ x y, (w.tk x y).heard ≤ (w'.tk x y).heard
  known : ∀ x y, ((w'.tk x y).known = (w.tk x y).known ∧ (w'.tk x y).due = (w.tk x y).due) ∨ (w.tk x y).known < (w'.tk x y).known
  mem : ∀ z ∈ w.mails, z = m ∨ z ∈ w'.mails
  word : ∀ x y : Nat, m.kind = 1 → m.fr = x → m.to = y → (m.num = (w.tk x y).heard + 1 → (w'.tk x y).heard = (w.tk x y).heard + 1) ∧ ∃ z ∈ w'.mails, z.kind = 2 ∧ z.fr = y ∧ z.to = x ∧ z.num = (w'.tk x y).heard + 1
  rcpt : ∀ x y : Nat, m.kind = 2 → m.to = x → m.fr = y → m.num - 1 ≤ (w'.tk x y).known
theorem put_one {w : Wd} {m : Mail} (h : w.mails.length < 200) : (putW w [m]).mails = w.mails ++ [{ m with id := w.last + 1 }] := by
  have : List.take (room w) [m] = [m] := List.take_of_length_le (by simp [room]; omega)
  simp only [putW, this, stamp]
theorem dst {w : Wd} (hw : Wok w) {m0 : Mail} (hm0 : m0 ∈ w.mails) : ∃ w' m, deliverW w m0.id = (w', 0) ∧ m ∈ w.mails ∧ Dst w w' m ∧ Wok w' := by
  obtain ⟨i, m, h1, h2, h3⟩ := find_mem hm0
  have hd : deliverW w m0.id = (arrive { w with mails := w.mails.eraseIdx i } m, 0) := by
    unfold deliverW; rw [h1]; simp only [h2]
  have hok := hw.deliver m0.id
  rw [hd] at hok
  refine ⟨_, m, hd, h3, ?_, hok⟩
  have hlen : (w.mails.eraseIdx i).length < 200 := by
    have h4 := find_lt h1
    have h5 := hw.ml
    rw [List.length_eraseIdx]; simp [h4]; omega
  have hwt := wts_erase h2
  obtain ⟨hp, hk⟩ := hw.ms m h3
  obtain ⟨x, y, hx, hy, hxy, e1, e2⟩ := pair_iff.1 hp
  have hx1 : m.fr.toNat = x := by omega
  have hy1 : m.to.toNat = y := by omega
  rw [hx1, hy1] at hk
  unfold arrive
  simp only [hx1, hy1]
  rcases hk with ⟨k1, n1, n2⟩ | ⟨k1, n1, n2⟩
  · have hw2 : wt m = 2 := by simp [wt, k1]
    rw [if_pos k1]
    by_cases hc : m.num = (w.tk x y).heard + 1
    · rw [if_pos hc, if_pos hc]
      have hml : (setT { w with mails := w.mails.eraseIdx i } x y { w.tk x y with heard := (w.tk x y).heard + 1 }).mails.length < 200 := hlen
      have hput := put_one (m := ⟨0, 2, m.to, m.fr, (w.tk x y).heard + 1 + 1, ByteArray.empty⟩) hml
      refine ⟨rfl, rfl, rfl, ?_, fun p q => ?_, fun p q => ?_, fun p q => ?_, fun z hz => ?_, fun p q _ f1 f2 => ?_, fun p q kk => ?_⟩
      · rw [hput, wts_append]
        simp only [setT, wts, wt]
        simp only [wt] at hwt hw2
        simp; omega
      · simp only [putW, setT]; split
        · rename_i e; rw [e.1, e.2]
        · rfl
      · simp only [putW, setT]; split
        · rename_i e; rw [e.1, e.2]; simp only; omega
        · exact Int.le_refl _
      · simp only [putW, setT]; split
        · rename_i e; rw [e.1, e.2]; exact .inl ⟨rfl, rfl⟩
        · exact .inl ⟨rfl, rfl⟩
      · rw [hput]
        rcases mem_erase h2 hz with h | h
        · exact .inl h
        · exact .inr (List.mem_append.2 (.inl h))
      · have : p = x := by omega
        have : q = y := by omega
        subst p q
        have eh : ((putW (setT { w with mails := w.mails.eraseIdx i } x y { w.tk x y with heard := (w.tk x y).heard + 1 }) [⟨0, 2, m.to, m.fr, (w.tk x y).heard + 1 + 1, ByteArray.empty⟩]).tk x y).heard = (w.tk x y).heard + 1 := by simp [putW, setT]
        refine ⟨fun _ => eh, _, by rw [hput]; exact List.mem_append.2 (.inr (List.mem_singleton.2 rfl)), rfl, ?_, ?_, ?_⟩
        · exact e2
        · exact e1
        · simp only; rw [eh]
      · omega
    · rw [if_neg hc, if_neg hc]
      have hml : ({ w with mails := w.mails.eraseIdx i } : Wd).mails.length < 200 := hlen
      have hput := put_one (m := ⟨0, 2, m.to, m.fr, (w.tk x y).heard + 1, ByteArray.empty⟩) hml
      refine ⟨rfl, rfl, rfl, ?_, fun p q => rfl, fun p q => Int.le_refl _, fun p q => .inl ⟨rfl, rfl⟩, fun z hz => ?_, fun p q _ f1 f2 => ?_, fun p q kk => ?_⟩
      · rw [hput, wts_append]
        simp only [wts, wt]
        simp only [wt] at hwt hw2
        simp; omega
      · rw [hput]
        rcases mem_erase h2 hz with h | h
        · exact .inl h
        · exact .inr (List.mem_append.2 (.inl h))
      · have : p = x := by omega
        have : q = y := by omega
        subst p q
        refine ⟨fun e => absurd e hc, _, by rw [hput]; exact List.mem_append.2 (.inr (List.mem_singleton.2 rfl)), rfl, ?_, ?_, rfl⟩
        · exact e2
        · exact e1
      · omega
  · have hw2 : wt m = 1 := by simp [wt, k1]
    rw [if_neg (by omega)]
    split
    · rename_i hc
      refine ⟨rfl, rfl, rfl, ?_, fun p q => ?_, fun p q => ?_, fun p q => ?_, fun z hz => ?_, fun p q kk => ?_, fun p q _ f1 f2 => ?_⟩
      · simp only [setT]; omega
      · simp only [setT]; split
        · rename_i e; rw [e.1, e.2]
        · rfl
      · simp only [setT]; split
        · rename_i e; rw [e.1, e.2]; exact Int.le_refl _
        · exact Int.le_refl _
      · simp only [setT]; split
        · rename_i e; rw [e.1, e.2]; exact .inr (by simp only; omega)
        · exact .inl ⟨rfl, rfl⟩
      · exact mem_erase h2 hz
      · omega
      · have : p = y := by omega
        have : q = x := by omega
        subst p q
        simp [setT]
    · rename_i hc
      refine ⟨rfl, rfl, rfl, ?_, fun p q => rfl, fun p q => Int.le_refl _, fun p q => .inl ⟨rfl, rfl⟩, fun z hz => mem_erase h2 hz, fun p q kk => ?_, fun p q _ f1 f2 => ?_⟩
      · simp only; omega
      · omega
      · have : p = y := by omega
        have : q = x := by omega
        subst p q
        simp only; omega
/-- deliveries, one after another -/
inductive Dls (w : Wd) : Wd → Nat → Prop where
  | refl : Dls w w 0
  | step {w1 w2 : Wd} {k : Nat} {m : Mail} : Dls w w1 k → m ∈ w1.mails → Wok w1 → Dst w1 w2 m → Wok w2 → Dls w w2 (k + 1)
structure Dgo (w w' : Wd) : Prop where
  st : w'.st = w.st
  wait : w'.wait = w.wait
  tick : w'.tick = w.tick
  said : ∀ x y, (w'.tk x y).said = (w.tk x y).said
  heard : ∀ x y, (w.tk x y).heard ≤ (w'.tk x y).heard
  known : ∀ x y, ((w'.tk x y).known = (w.tk x y).known ∧ (w'.tk x y).due = (w.tk x y).due) ∨ (w.tk x y).known < (w'.tk x y).known
theorem Dls.go {w w' : Wd} {k : Nat} (h : Dls w w' k) : Dgo w w' ∧ wts w'.mails + k = wts w.mails := by
  induction h with
  | refl => exact ⟨⟨rfl, rfl, rfl, fun _ _ => rfl, fun _ _ => Int.le_refl _, fun _ _ => .inl ⟨rfl, rfl⟩⟩, rfl⟩
  | step _ _ _ d _ ih =>
    obtain ⟨g, e⟩ := ih
    refine ⟨⟨d.st.trans g.st, d.wait.trans g.wait, d.tick.trans g.tick, fun x y => (d.said x y).trans (g.said x y), fun x y => Int.le_trans (g.heard x y) (d.heard x y), fun x y => ?_⟩, by have := d.wt; omega⟩
    rcases g.known x y with ⟨a, b⟩ | a <;> rcases d.known x y with ⟨c, e⟩ | c
    · exact .inl ⟨c.trans a, e.trans b⟩
    · exact .inr (by omega)
    · exact .inr (by omega)
    · exact .inr (by omega)
theorem Dls.ok {w w' : Wd} {k : Nat} (h : Dls w w' k) (hw : Wok w) : Wok w' := by
  cases h with
  | refl => exact hw
  | step _ _ _ _ h => exact h
/-- that a talk's knowledge reaches a number is under way -/
def Pend (K h0 : Int) (a b : Nat) (w : Wd) : Prop :=
  K ≤ (w.tk a b).known ∨ (∃ m ∈ w.mails, m.kind = 2 ∧ m.to = a ∧ m.fr = b ∧ K ≤ m.num - 1) ∨ (h0 ≤ (w.tk a b).heard ∧ ∃ m ∈ w.mails, m.kind = 1 ∧ m.fr = a ∧ m.to = b ∧ m.num = h0 + 1) ∨ (K ≤ (w.tk a b).heard ∧ ∃ m ∈ w.mails, m.kind = 1 ∧ m.fr = a ∧ m.to = b)
theorem Pend.step {K h0 : Int} {a b : Nat} {w w' : Wd} {m : Mail} (hK : K ≤ h0 + 1) (d : Dst w w' m) (h : Pend K h0 a b w) : Pend K h0 a b w' := by
  have hh := d.heard a b
  have hk : (w.tk a b).known ≤ (w'.tk a b).known := by rcases d.known a b with h | h <;> omega
  rcases h with h | ⟨z, hz, k1, k2, k3, k4⟩ | ⟨h1, z, hz, k1, k2, k3, k4⟩ | ⟨h1, z, hz, k1, k2, k3⟩
  · exact .inl (by omega)
  · rcases d.mem z hz with rfl | h
    · exact .inl (by have := d.rcpt a b k1 k2 k3; omega)
    · exact .inr (.inl ⟨z, h, k1, k2, k3, k4⟩)
  · rcases d.mem z hz with rfl | h
    · obtain ⟨e1, y, hy, y1, y2, y3, y4⟩ := d.word a b k1 k2 k3
      refine .inr (.inl ⟨y, hy, y1, y3, y2, ?_⟩)
      by_cases e : (w.tk a b).heard = h0
      · have := e1 (by omega); omega
      · omega
    · exact .inr (.inr (.inl ⟨by omega, z, h, k1, k2, k3, k4⟩))
  · rcases d.mem z hz with rfl | h
    · obtain ⟨_, y, hy, y1, y2, y3, y4⟩ := d.word a b k1 k2 k3
      exact .inr (.inl ⟨y, hy, y1, y3, y2, by omega⟩)
    · exact .inr (.inr (.inr ⟨by omega, z, h, k1, k2, k3⟩))
theorem Pend.dls {K h0 : Int} {a b : Nat} {w w' : Wd} {k : Nat} (hK : K ≤ h0 + 1) (d : Dls w w' k) (h : Pend K h0 a b w) : Pend K h0 a b w' := by
  induction d with
  | refl => exact h
  | step _ _ _ d _ ih => exact ih.step hK d
theorem Pend.done {K h0 : Int} {a b : Nat} {w : Wd} (h : Pend K h0 a b w) (hm : w.mails = []) : K ≤ (w.tk a b).known := by
  rcases h with h | ⟨z, hz, _⟩ | ⟨_, z, hz, _⟩ | ⟨_, z, hz, _⟩
  · exact h
  all_goals rw [hm] at hz; cases hz
end Wl

namespace Wl
open Go.AM
def sz (w : Wd) (q : Nat × Nat) : Nat := (saidW w q.1 q.2).length
def szs (w : Wd) : List (Nat × Nat) → Nat
  | [] => 0
  | q :: r => sz w q + szs w r
theorem szs_same {w w' : Wd} (hst : w'.st = w.st) (hs : ∀ x y, (w'.tk x y).said = (w.tk x y).said) : ∀ l, szs w' l = szs w l
  | [] => rfl
  | q :: r => by rw [szs, szs, szs_same hst hs r]; simp [sz, saidW, isPair, hst, hs]
theorem sz_pair {w : Wd} {a b : Nat} (ha : a < w.st) (hb : b < w.st) (hab : a ≠ b) : sz w (a, b) = (w.tk a b).said.length := by
  have : isPair w a b = true := pair_iff.2 ⟨a, b, ha, hb, hab, rfl, rfl⟩
  simp [sz, saidW, this]
theorem sz_le {w : Wd} : ∀ {l : List (Nat × Nat)} {q : Nat × Nat}, q ∈ l → sz w q ≤ szs w l
  | p :: r, q, h => by
    rcases List.mem_cons.1 h with rfl | h
    · simp [szs]
    · have := sz_le (w := w) h; simp [szs]; omega
theorem stamp_mem2 {k : Int} {l : List Mail} {m : Mail} (h : m ∈ l) : ∃ z ∈ stamp k l, z.kind = m.kind ∧ z.fr = m.fr ∧ z.to = m.to ∧ z.num = m.num := by
  induction l generalizing k with
  | nil => cases h
  | cons x r ih =>
    rcases List.mem_cons.1 h with rfl | h
    · exact ⟨{ m with id := k + 1 }, by simp [stamp], rfl, rfl, rfl, rfl⟩
    · obtain ⟨z, hz, e⟩ := ih (k := k + 1) h
      exact ⟨z, by simp [stamp, hz], e⟩
theorem timeP_said (w : Wd) (a b x y : Nat) : ((timeP w a b).tk x y).said = (w.tk x y).said ∧ ((timeP w a b).tk x y).heard = (w.tk x y).heard ∧ ((timeP w a b).tk x y).known = (w.tk x y).known ∧ ((x, y) ≠ (a, b) → ((timeP w a b).tk x y).due = (w.tk x y).due) := by
  unfold timeP
  split
  · exact ⟨rfl, rfl, rfl, fun _ => rfl⟩
  · simp only [setT, putW]
    split
    · rename_i e; rw [e.1, e.2]; exact ⟨rfl, rfl, rfl, fun h => absurd rfl h⟩
    · exact ⟨rfl, rfl, rfl, fun _ => rfl⟩
theorem timeP_mem (w : Wd) (a b : Nat) : ∀ z ∈ w.mails, z ∈ (timeP w a b).mails := by
  intro z hz
  unfold timeP
  split
  · exact hz
  · exact List.mem_append.2 (.inl hz)
theorem timeP_len {w : Wd} {a b : Nat} (ha : a < w.st) (hb : b < w.st) : (timeP w a b).mails.length ≤ w.mails.length + sz w (a, b) := by
  unfold timeP
  split
  · omega
  · rename_i h
    have hab : a ≠ b := fun e => h (.inl e)
    rw [sz_pair ha hb hab]
    simp only [setT, putW, List.length_append, stamp_length, List.length_take, resend_len]
    omega
theorem timeP_put {w : Wd} {a b : Nat} (hab : a ≠ b) (ho : opn (w.tk a b) ≠ 0) (hd : (w.tk a b).due ≤ w.tick) (hr : (w.tk a b).said.length ≤ room w) (hk : 0 ≤ (w.tk a b).known) {j : Nat} (h1 : (w.tk a b).known ≤ j) (h2 : j < (w.tk a b).said.length) :
    ∃ z ∈ (timeP w a b).mails, z.kind = 1 ∧ z.fr = a ∧ z.to = b ∧ z.num = (j : Int) + 1 := by
  have hc : ¬(a = b ∨ opn (w.tk a b) = 0 ∨ (w.tk a b).due > w.tick) := by
    rintro (h | h | h)
    · exact hab h
    · exact ho h
    · omega
  unfold timeP
  rw [if_neg hc]
  obtain ⟨kn, hkn⟩ : ∃ kn : Nat, (w.tk a b).known = kn := ⟨(w.tk a b).known.toNat, by omega⟩
  have hj := resend_at (a := a) (b := b) (k := j - kn) hkn (by omega)
  have hkj : kn + (j - kn) = j := by omega
  simp only [hkj] at hj
  have htake : (resend a b (w.tk a b)).take (room w) = resend a b (w.tk a b) := List.take_of_length_le (by rw [resend_len]; omega)
  obtain ⟨z, hz, e1, e2, e3, e4⟩ := stamp_mem2 (k := w.last) (List.mem_of_getElem? hj)
  refine ⟨z, ?_, e1, e2, e3, e4⟩
  simp only [setT, putW, htake]
  exact List.mem_append.2 (.inr hz)
theorem timeGo_all : ∀ (l : List (Nat × Nat)) {w : Wd}, (∀ p ∈ l, p.1 < w.st ∧ p.2 < w.st) → w.mails.length + szs w l ≤ 200 → (∀ x y, 0 ≤ (w.tk x y).known) →
    (∀ x y, ((timeGo w l).tk x y).said = (w.tk x y).said ∧ ((timeGo w l).tk x y).heard = (w.tk x y).heard ∧ ((timeGo w l).tk x y).known = (w.tk x y).known) ∧ (∀ z ∈ w.mails, z ∈ (timeGo w l).mails) ∧
    ∀ a b, (a, b) ∈ l → a ≠ b → opn (w.tk a b) ≠ 0 → (w.tk a b).due ≤ w.tick → ∀ j : Nat, (w.tk a b).known ≤ j → j < (w.tk a b).said.length → ∃ z ∈ (timeGo w l).mails, z.kind = 1 ∧ z.fr = a ∧ z.to = b ∧ z.num = (j : Int) + 1
  | [], w, _, _, _ => ⟨fun _ _ => ⟨rfl, rfl, rfl⟩, fun z hz => hz, fun a b h => by cases h⟩
  | (p, q) :: r, w, hl, hs, hk => by
    have hpq : p < w.st ∧ q < w.st := hl (p, q) (by simp)
    have hP := timeP_said w p q
    have hst := timeP_st w p q
    have hsz : szs (timeP w p q) r = szs w r := szs_same hst (fun x y => (hP x y).1) r
    have hlen := timeP_len (w := w) hpq.1 hpq.2
    simp only [szs] at hs
    obtain ⟨i1, i2, i3⟩ := timeGo_all r (w := timeP w p q) (fun z hz => by rw [hst]; exact hl z (by simp [hz])) (by rw [hsz]; omega) (fun x y => by rw [(hP x y).2.2.1]; exact hk x y)
    refine ⟨fun x y => ⟨(i1 x y).1.trans (hP x y).1, (i1 x y).2.1.trans (hP x y).2.1, (i1 x y).2.2.trans (hP x y).2.2.1⟩, fun z hz => i2 z (timeP_mem w p q z hz), fun a b hab hne ho hd j h1 h2 => ?_⟩
    by_cases e : (a, b) = (p, q)
    · cases e
      obtain ⟨z, hz, e⟩ := timeP_put hne ho hd (by rw [← sz_pair hpq.1 hpq.2 hne]; simp only [room]; omega) (hk _ _) h1 h2
      exact ⟨z, i2 z hz, e⟩
    · rcases List.mem_cons.1 hab with h | h
      · exact absurd h e
      · have ht := (timeP_ck w p q).1
        obtain ⟨e1, e2, e3, e4⟩ := hP a b
        refine i3 a b h hne ?_ ?_ j (by rw [e3]; exact h1) (by rw [e1]; exact h2)
        · simp only [opn, e1, e3]; simpa only [opn] using ho
        · rw [e4 e, ht]; exact hd
/-- a round: all mails delivered, the time goes on, all mails delivered -/
theorem round {w w1 w3 : Wd} {k1 k2 : Nat} {nx : Int} (hw : Wok w) (d1 : Dls w w1 k1) (e1 : w1.mails = []) (hn0 : w.tick ≤ nx) (hn1 : nx ≤ 1048576)
    (hdue : ∀ a b, a < w.st → b < w.st → a ≠ b → opn (w.tk a b) ≠ 0 → (w.tk a b).due ≤ nx) (hsz : szs w (grid w.st) ≤ 200) (d2 : Dls (timeW w1 nx).1 w3 k2) (e3 : w3.mails = []) :
    Wok w3 ∧ w3.st = w.st ∧ (∀ x y, (w3.tk x y).said = (w.tk x y).said) ∧ ∀ a b, a < w.st → b < w.st → a ≠ b → ((w.tk a b).said.length : Int) ≤ (w3.tk a b).known ∨ (w.tk a b).known + 1 ≤ (w3.tk a b).known := by
  obtain ⟨g1, _⟩ := d1.go
  have hw1 := d1.ok hw
  have ht : timeW w1 nx = (timeGo { w1 with tick := nx } (grid w1.st), 0) := by
    rw [timeW, if_neg]
    rw [g1.tick]
    have : within nx w.tick 1048576 = true := Wl.within_iff.2 ⟨hn0, hn1⟩
    rw [this]; simp
  have hw2 : Wok (timeW w1 nx).1 := hw1.time nx
  obtain ⟨g2, _⟩ := d2.go
  have hw3 := d2.ok hw2
  rw [ht] at g2 d2 hw2
  simp only at g2 d2 hw2
  have hst : w1.st = w.st := g1.st
  have hall := timeGo_all (grid w1.st) (w := { w1 with tick := nx }) (fun p hp => mem_grid.1 hp) (by
    have : szs { w1 with tick := nx } (grid w1.st) = szs w (grid w1.st) := szs_same (w := w) (w' := { w1 with tick := nx }) hst (fun x y => g1.said x y) _
    rw [this, hst]
    show w1.mails.length + _ ≤ 200
    rw [e1]; simpa using hsz) (fun x y => (hw1.tk x y).k0)
  obtain ⟨i1, _, i3⟩ := hall
  have hs3 : ∀ x y, (w3.tk x y).said = (w.tk x y).said := fun x y => (g2.said x y).trans ((i1 x y).1.trans (g1.said x y))
  refine ⟨hw3, ?_, hs3, fun a b ha hb hab => ?_⟩
  · rw [g2.st, timeGo_st]; exact hst
  have t0 := hw.tk a b
  have t1 := hw1.tk a b
  have t3 := hw3.tk a b
  have s1 := g1.said a b
  have j1 := i1 a b
  have hk31 : (w1.tk a b).known ≤ (w3.tk a b).known := by
    have h2 := g2.known a b
    rw [j1.2.2] at h2
    rcases h2 with h | h
    · rw [h.1]; exact Int.le_refl _
    · exact Int.le_of_lt h
  by_cases ho : opn (w1.tk a b) = 0
  · left
    have : (w1.tk a b).known = (w1.tk a b).said.length := by unfold opn at ho; omega
    rw [s1] at this; omega
  rcases g1.known a b with ⟨hk, hd⟩ | hk
  · have ho2 : opn (w.tk a b) ≠ 0 := by unfold opn at ho ⊢; rw [s1, hk] at ho; exact ho
    have hdn := hdue a b ha hb hab ho2
    have hmem : (a, b) ∈ grid w1.st := mem_grid.2 ⟨by rw [hst]; exact ha, by rw [hst]; exact hb⟩
    have hres := i3 a b hmem hab ho (by show (w1.tk a b).due ≤ nx; rw [hd]; exact hdn)
    have hopn : (w1.tk a b).known < (w1.tk a b).said.length := by
      have := t1.kh; have := t1.hs; unfold opn at ho; omega
    by_cases hh : (w1.tk a b).heard < (w1.tk a b).said.length
    · right
      have t1k0 := t1.k0; have t1kh := t1.kh
      obtain ⟨z, hz, z1, z2, z3, z4⟩ := hres (w1.tk a b).heard.toNat (by show (w1.tk a b).known ≤ _; omega) (by show _ < (w1.tk a b).said.length; omega)
      have hp : Pend ((w1.tk a b).heard + 1) (w1.tk a b).heard a b (timeGo { w1 with tick := nx } (grid w1.st)) :=
        .inr (.inr (.inl ⟨by rw [j1.2.1]; exact Int.le_refl _, z, hz, z1, z2, z3, by rw [z4]; omega⟩))
      have := (hp.dls (Int.le_refl _) d2).done e3
      omega
    · left
      have t1k0 := t1.k0; have t1hs := t1.hs
      obtain ⟨z, hz, z1, z2, z3, z4⟩ := hres (w1.tk a b).known.toNat (by show (w1.tk a b).known ≤ _; omega) (by show _ < (w1.tk a b).said.length; omega)
      have hp : Pend (w1.tk a b).said.length (w1.tk a b).heard a b (timeGo { w1 with tick := nx } (grid w1.st)) :=
        .inr (.inr (.inr ⟨by rw [j1.2.1]; show _ ≤ (w1.tk a b).heard; omega, z, hz, z1, z2, z3⟩))
      have := (hp.dls (by omega) d2).done e3
      rw [s1] at this
      exact this
  · right; omega
end Wl

namespace Wl
open Go.AM
/-- IDs grow along the mails -/
structure Ids (w : Wd) : Prop where
  inc : w.mails.Pairwise (fun a b => a.id < b.id)
  le : ∀ m ∈ w.mails, m.id ≤ w.last
theorem stamp_ids : ∀ (k : Int) (l : List Mail), (stamp k l).Pairwise (fun a b => a.id < b.id) ∧ ∀ m ∈ stamp k l, k < m.id ∧ m.id ≤ k + l.length
  | k, [] => ⟨List.Pairwise.nil, fun m h => by cases h⟩
  | k, x :: r => by
    obtain ⟨h1, h2⟩ := stamp_ids (k + 1) r
    refine ⟨List.pairwise_cons.2 ⟨fun m hm => ?_, h1⟩, fun m hm => ?_⟩
    · have := h2 m hm; simp only; omega
    · simp only [stamp, List.mem_cons] at hm
      rcases hm with rfl | hm
      · simp only [List.length_cons]; omega
      · have := h2 m hm; simp only [List.length_cons]; omega
theorem Ids.put {w : Wd} (h : Ids w) (l : List Mail) : Ids (putW w l) := by
  obtain ⟨h1, h2⟩ := stamp_ids w.last (l.take (room w))
  refine ⟨?_, fun m hm => ?_⟩
  · simp only [putW]
    refine List.pairwise_append.2 ⟨h.inc, h1, fun a ha b hb => ?_⟩
    have := h.le a ha; have := h2 b hb; omega
  · simp only [putW, List.mem_append] at hm ⊢
    rcases hm with hm | hm
    · have := h.le m hm; omega
    · exact (h2 m hm).2
theorem Ids.of {w w' : Wd} (h : Ids w) (e1 : w'.mails = w.mails) (e2 : w'.last = w.last) : Ids w' := ⟨by rw [e1]; exact h.inc, by rw [e1, e2]; exact h.le⟩
theorem Ids.erase {w : Wd} (h : Ids w) (i : Nat) : Ids { w with mails := w.mails.eraseIdx i } :=
  ⟨h.inc.sublist (List.eraseIdx_sublist _ _), fun m hm => h.le m (List.mem_of_mem_eraseIdx hm)⟩
theorem Ids.timeP {w : Wd} (h : Ids w) (a b : Nat) : Ids (timeP w a b) := by
  unfold Wl.timeP; split
  · exact h
  · exact (h.put _).of rfl rfl
theorem Ids.timeGo : ∀ (l : List (Nat × Nat)) {w : Wd}, Ids w → Ids (timeGo w l)
  | [], _, h => h
  | (a, b) :: r, _, h => Ids.timeGo r (h.timeP a b)
theorem Ids.arrive {w : Wd} (h : Ids w) (m : Mail) : Ids (arrive w m) := by
  unfold Wl.arrive; split
  · refine Ids.put ?_ _
    split
    · exact h.of rfl rfl
    · exact h
  · split
    · exact h.of rfl rfl
    · exact h
theorem Ids.step {w : Wd} (h : Ids w) (s : Step) : Ids (doW w s).1 := by
  unfold doW
  split
  · exact h
  split
  · unfold sayW; split
    · exact h
    split
    · exact h
    · show Ids (putW (setT w _ _ _) _)
      exact Ids.put (w := setT w _ _ _) (h.of rfl rfl) _
  split
  · unfold timeW; split
    · exact h
    · exact Ids.timeGo _ (h.of rfl rfl)
  split
  · unfold deliverW; split
    · exact h
    split
    · exact h
    · exact (h.erase _).arrive _
  split
  · unfold loseW; split
    · exact h
    · exact h.erase _
  split
  · unfold doubleW; split
    · exact h
    split
    · exact h
    split
    · exact h
    · exact h.put _
  · unfold crashW; split
    · exact h
    · exact h.of rfl rfl
theorem Ids.find {w : Wd} (h : Ids w) {i : Nat} {m : Mail} (hm : w.mails[i]? = some m) : findM w m.id = some i := by
  have hi := (List.getElem?_eq_some_iff.1 hm)
  have hilt := hi.1
  refine List.findIdx?_eq_some_iff_getElem.2 ⟨hi.1, by simp [hi.2], fun j hj => ?_⟩
  have := List.pairwise_iff_getElem.1 h.inc j i (by omega) hi.1 hj
  rw [hi.2] at this
  simp; omega
def btw (p q : Nat) (m : Mail) : Bool := (m.fr == p && m.to == q) || (m.fr == q && m.to == p)
def core (m : Mail) : Int × Int × Int × Int × ByteArray := (m.kind, m.fr, m.to, m.num, m.text)
structure Alone (p q : Nat) (w v : Wd) : Prop where
  st : v.st = w.st
  wait : v.wait = w.wait
  tick : v.tick = w.tick
  t1 : v.tk p q = w.tk p q
  t2 : v.tk q p = w.tk q p
  rest : ∀ a b, (a, b) ≠ (p, q) → (a, b) ≠ (q, p) → (v.tk a b).said = [] ∧ (v.tk a b).known = 0
  mails : v.mails.map core = (w.mails.filter (btw p q)).map core
section
variable {p q : Nat} {w v : Wd}
theorem Alone.len (h : Alone p q w v) : v.mails.length ≤ w.mails.length := by
  have := congrArg List.length h.mails
  rw [List.length_map, List.length_map] at this
  rw [this]; exact List.length_filter_le _ _
theorem Alone.both (h : Alone p q w v) {a b : Nat} (hab : (a, b) = (p, q) ∨ (a, b) = (q, p)) (t : Talk) : Alone p q (setT w a b t) (setT v a b t) := by
  refine ⟨h.st, h.wait, h.tick, ?_, ?_, fun x y h1 h2 => ?_, h.mails⟩
  · simp only [setT]; split
    · rfl
    · exact h.t1
  · simp only [setT]; split
    · rfl
    · exact h.t2
  · have : ¬ (x = a ∧ y = b) := by
      rintro ⟨rfl, rfl⟩
      rcases hab with e | e
      · exact h1 e
      · exact h2 e
    simp only [setT, if_neg this]
    exact h.rest x y h1 h2
theorem Alone.other (h : Alone p q w v) {a b : Nat} (h1 : (a, b) ≠ (p, q)) (h2 : (a, b) ≠ (q, p)) (t : Talk) : Alone p q (setT w a b t) v := by
  refine ⟨h.st, h.wait, h.tick, ?_, ?_, h.rest, h.mails⟩
  · have : ¬ (p = a ∧ q = b) := by rintro ⟨rfl, rfl⟩; exact h1 rfl
    simp only [setT, if_neg this]; exact h.t1
  · have : ¬ (q = a ∧ p = b) := by rintro ⟨rfl, rfl⟩; exact h2 rfl
    simp only [setT, if_neg this]; exact h.t2
theorem core_stamp : ∀ (k : Int) (l : List Mail), (stamp k l).map core = l.map core
  | _, [] => rfl
  | k, m :: r => by simp only [stamp, List.map_cons, core_stamp (k + 1) r]; rfl
theorem btw_core {a b : Mail} (h : core a = core b) : btw p q a = btw p q b := by
  simp only [core, Prod.mk.injEq] at h
  simp only [btw, h.2.1, h.2.2.1]
theorem filter_stamp_all {k : Int} {l : List Mail} (h : ∀ m ∈ l, btw p q m = true) : (stamp k l).filter (btw p q) = stamp k l := by
  refine List.filter_eq_self.2 fun m hm => ?_
  obtain ⟨m0, h1, i, rfl⟩ := stamp_mem hm
  exact h m0 h1
theorem filter_stamp_none {k : Int} {l : List Mail} (h : ∀ m ∈ l, btw p q m = false) : (stamp k l).filter (btw p q) = [] := by
  refine List.filter_eq_nil_iff.2 fun m hm => ?_
  obtain ⟨m0, h1, i, rfl⟩ := stamp_mem hm
  have := h m0 h1
  show ¬ btw p q m0 = true
  rw [this]; simp
theorem Alone.put (h : Alone p q w v) {l l' : List Mail} (hl : ∀ m ∈ l, btw p q m = true) (hc : l'.map core = l.map core) (hr : (putW w l).mails.length ≤ 150) : Alone p q (putW w l) (putW v l') := by
  have hlen : l'.length = l.length := by simpa using congrArg List.length hc
  have h3 := h.len
  have hr2 : l.length ≤ room w := by
    simp only [putW, List.length_append, stamp_length, List.length_take, room] at hr ⊢
    omega
  have e1 : l.take (room w) = l := List.take_of_length_le hr2
  have e2 : l'.take (room v) = l' := List.take_of_length_le (by simp only [room] at hr2 ⊢; omega)
  refine ⟨h.st, h.wait, h.tick, h.t1, h.t2, h.rest, ?_⟩
  simp only [putW, e1, e2, List.map_append, List.filter_append, core_stamp, filter_stamp_all hl, h.mails, hc]
theorem Alone.putOther (h : Alone p q w v) {l : List Mail} (hl : ∀ m ∈ l, btw p q m = false) : Alone p q (putW w l) v := by
  refine ⟨h.st, h.wait, h.tick, h.t1, h.t2, h.rest, ?_⟩
  have : (stamp w.last (l.take (room w))).filter (btw p q) = [] := filter_stamp_none fun m hm => hl m (List.mem_of_mem_take hm)
  simp only [putW, List.filter_append, this, List.append_nil]
  exact h.mails
theorem put_mono (w : Wd) (l : List Mail) : w.mails.length ≤ (putW w l).mails.length := by simp [putW]
theorem timeP_mono (w : Wd) (a b : Nat) : w.mails.length ≤ (timeP w a b).mails.length := by
  unfold timeP; split
  · exact Nat.le_refl _
  · exact put_mono _ _
theorem timeGo_mono : ∀ (l : List (Nat × Nat)) (w : Wd), w.mails.length ≤ (timeGo w l).mails.length
  | [], _ => Nat.le_refl _
  | (a, b) :: r, w => Nat.le_trans (timeP_mono w a b) (timeGo_mono r _)
theorem resend_btw {a b : Nat} {t : Talk} : ∀ m ∈ resend a b t, m.fr = a ∧ m.to = b := by
  intro m hm
  simp only [resend, List.mem_map] at hm
  obtain ⟨k, _, rfl⟩ := hm
  exact ⟨rfl, rfl⟩
theorem btw_true {a b : Nat} (hab : (a, b) = (p, q) ∨ (a, b) = (q, p)) {m : Mail} (h1 : m.fr = a) (h2 : m.to = b) : btw p q m = true := by
  rcases hab with e | e <;> cases e <;> simp [btw, h1, h2]
theorem btw_false {a b : Nat} (e1 : (a, b) ≠ (p, q)) (e2 : (a, b) ≠ (q, p)) {m : Mail} (h1 : m.fr = a) (h2 : m.to = b) : btw p q m = false := by
  simp only [btw, h1, h2, Bool.or_eq_false_iff, Bool.and_eq_false_iff, beq_eq_false_iff_ne]
  simp only [ne_eq, Prod.mk.injEq, not_and] at e1 e2
  constructor
  · by_cases h : (a : Int) = p
    · right; intro h'; exact e1 (by omega) (by omega)
    · exact .inl h
  · by_cases h : (a : Int) = q
    · right; intro h'; exact e2 (by omega) (by omega)
    · exact .inl h
theorem Alone.timeP (h : Alone p q w v) (a b : Nat) (hr : (timeP w a b).mails.length ≤ 150) : Alone p q (timeP w a b) (timeP v a b) := by
  by_cases hab : (a, b) = (p, q) ∨ (a, b) = (q, p)
  · have ht : v.tk a b = w.tk a b := by
      rcases hab with e | e <;> cases e
      · exact h.t1
      · exact h.t2
    unfold Wl.timeP at hr ⊢
    rw [ht, h.tick]
    split
    · exact h
    · rename_i hc
      rw [if_neg hc] at hr
      have h1 : Alone p q (putW w (resend a b (w.tk a b))) (putW v (resend a b (w.tk a b))) := h.put (fun m hm => btw_true hab (resend_btw m hm).1 (resend_btw m hm).2) rfl hr
      rw [h.wait]
      exact h1.both hab _
  · have e1 : (a, b) ≠ (p, q) := fun e => hab (.inl e)
    have e2 : (a, b) ≠ (q, p) := fun e => hab (.inr e)
    have hv : Wl.timeP v a b = v := by
      unfold Wl.timeP
      rw [if_pos]
      obtain ⟨h1, h2⟩ := h.rest a b e1 e2
      exact .inr (.inl (by simp [opn, h1, h2]))
    rw [hv]
    unfold Wl.timeP
    split
    · exact h
    · exact (h.putOther fun m hm => btw_false e1 e2 (resend_btw m hm).1 (resend_btw m hm).2).other e1 e2 _
theorem Alone.timeGo : ∀ (l : List (Nat × Nat)) {_w _v : Wd}, Alone p q _w _v → (timeGo _w l).mails.length ≤ 150 → Alone p q (timeGo _w l) (timeGo _v l)
  | [], _, _, h, _ => h
  | (a, b) :: r, _, _, h, hr => Alone.timeGo r (h.timeP a b (Nat.le_trans (timeGo_mono r _) hr)) hr
theorem Alone.time (h : Alone p q w v) (n : Int) (hok : (timeW w n).2 = 0) (hr : (timeW w n).1.mails.length ≤ 150) : Alone p q (timeW w n).1 (timeW v n).1 := by
  unfold timeW at hok hr ⊢
  rw [h.tick]
  split
  · rename_i hc; rw [if_pos hc] at hok; cases hok
  · rename_i hc
    rw [if_neg hc] at hr
    rw [show grid v.st = grid w.st by rw [h.st]]
    exact Alone.timeGo _ (⟨h.st, h.wait, rfl, h.t1, h.t2, h.rest, h.mails⟩ : Alone p q { w with tick := n } { v with tick := n }) hr
end
end Wl

namespace Wl
open Go.AM
theorem doW_err {w : Wd} {s : Step} (h : (doW w s).2 ≠ 0) : (doW w s).1 = w := by
  unfold doW at h ⊢
  split at h
  · rename_i c; rw [if_pos c]
  rename_i c; rw [if_neg c]
  split at h
  · rename_i c2; rw [if_pos c2]
    unfold sayW at h ⊢
    split at h
    · rename_i c3; rw [if_pos c3]
    rename_i c3; rw [if_neg c3]
    split at h
    · rename_i c4; rw [if_pos c4]
    · exact absurd rfl h
  rename_i c2; rw [if_neg c2]
  split at h
  · rename_i c3; rw [if_pos c3]
    unfold timeW at h ⊢
    split at h
    · rename_i c4; rw [if_pos c4]
    · exact absurd rfl h
  rename_i c3; rw [if_neg c3]
  split at h
  · rename_i c4; rw [if_pos c4]
    unfold deliverW at h ⊢
    cases hf : findM w s.n with
    | none => rfl
    | some i =>
      simp only [hf] at h ⊢
      cases hm : w.mails[i]? with
      | none => rfl
      | some m => simp only [hm] at h; exact absurd rfl h
  rename_i c4; rw [if_neg c4]
  split at h
  · rename_i c5; rw [if_pos c5]
    unfold loseW at h ⊢
    cases hf : findM w s.n with
    | none => rfl
    | some i => simp only [hf] at h; exact absurd rfl h
  rename_i c5; rw [if_neg c5]
  split at h
  · rename_i c6; rw [if_pos c6]
    unfold doubleW at h ⊢
    cases hf : findM w s.n with
    | none => rfl
    | some i =>
      simp only [hf] at h ⊢
      split at h
      · rename_i c7; rw [if_pos c7]
      rename_i c7; rw [if_neg c7]
      cases hm : w.mails[i]? with
      | none => rfl
      | some m => simp only [hm] at h; exact absurd rfl h
  rename_i c6; rw [if_neg c6]
  unfold crashW at h ⊢
  split at h
  · rename_i c7; rw [if_pos c7]
  · exact absurd rfl h
/-- where a mail lies among those between two stations -/
def PlaceOk (p q : Nat) (l : List Mail) (id r : Int) : Prop :=
  (r = -1 ∧ ∀ m ∈ l, btw p q m = true → m.id ≠ id) ∨ (∃ i m, l[i]? = some m ∧ btw p q m = true ∧ m.id = id ∧ r = ((l.take i).filter (btw p q)).length)
theorem split_at {l : List Mail} {i : Nat} {m : Mail} (h : l[i]? = some m) : l = l.take i ++ m :: l.drop (i + 1) := by
  obtain ⟨h1, h2⟩ := List.getElem?_eq_some_iff.1 h
  rw [← h2, List.getElem_cons_drop h1, List.take_append_drop]
theorem filter_at {f : Mail → Bool} {l : List Mail} {i : Nat} {m : Mail} (h : l[i]? = some m) (hf : f m = true) : (l.filter f)[((l.take i).filter f).length]? = some m := by
  have e : l.filter f = (l.take i).filter f ++ m :: (l.drop (i + 1)).filter f := by
    conv => lhs; rw [split_at h]
    rw [List.filter_append, List.filter_cons, if_pos hf]
  rw [e, List.getElem?_append_right (Nat.le_refl _), Nat.sub_self]; rfl
theorem erase_on {f : Mail → Bool} {l : List Mail} {i : Nat} {m : Mail} (h : l[i]? = some m) (hf : f m = true) : (l.eraseIdx i).filter f = (l.filter f).eraseIdx ((l.take i).filter f).length := by
  have e : l.filter f = (l.take i).filter f ++ m :: (l.drop (i + 1)).filter f := by
    conv => lhs; rw [split_at h]
    rw [List.filter_append, List.filter_cons, if_pos hf]
  rw [e, List.eraseIdx_append_of_length_le (Nat.le_refl _), Nat.sub_self, List.eraseIdx_cons_zero, List.eraseIdx_eq_take_drop_succ, List.filter_append]
theorem erase_off {f : Mail → Bool} {l : List Mail} {i : Nat} {m : Mail} (h : l[i]? = some m) (hf : f m = false) : (l.eraseIdx i).filter f = l.filter f := by
  conv => rhs; rw [split_at h]
  rw [List.eraseIdx_eq_take_drop_succ, List.filter_append, List.filter_append, List.filter_cons, if_neg (by rw [hf]; simp)]
theorem map_erase {β : Type} (f : Mail → β) (l : List Mail) (i : Nat) : (l.eraseIdx i).map f = (l.map f).eraseIdx i := by
  rw [List.eraseIdx_eq_take_drop_succ, List.eraseIdx_eq_take_drop_succ, List.map_append, List.map_take, List.map_drop]
section
variable {p q : Nat} {w v : Wd}
theorem Alone.mail (h : Alone p q w v) {i : Nat} {m : Mail} (hm : w.mails[i]? = some m) (hb : btw p q m = true) : ∃ m', v.mails[((w.mails.take i).filter (btw p q)).length]? = some m' ∧ core m' = core m := by
  have h1 := congrArg (fun l => l[((w.mails.take i).filter (btw p q)).length]?) h.mails
  simp only [List.getElem?_map, filter_at hm hb, Option.map_some] at h1
  cases hv : v.mails[((w.mails.take i).filter (btw p q)).length]? with
  | none => rw [hv] at h1; cases h1
  | some m' => rw [hv] at h1; exact ⟨m', rfl, Option.some.inj h1⟩
theorem Alone.eraseBoth (h : Alone p q w v) {i : Nat} {m : Mail} (hm : w.mails[i]? = some m) (hb : btw p q m = true) : Alone p q { w with mails := w.mails.eraseIdx i } { v with mails := v.mails.eraseIdx ((w.mails.take i).filter (btw p q)).length } := by
  refine ⟨h.st, h.wait, h.tick, h.t1, h.t2, h.rest, ?_⟩
  simp only
  rw [map_erase, h.mails, erase_on hm hb, map_erase]
theorem Alone.eraseOther (h : Alone p q w v) {i : Nat} {m : Mail} (hm : w.mails[i]? = some m) (hb : btw p q m = false) : Alone p q { w with mails := w.mails.eraseIdx i } v := by
  refine ⟨h.st, h.wait, h.tick, h.t1, h.t2, h.rest, ?_⟩
  simp only
  rw [erase_off hm hb, h.mails]
theorem btw_cases {m : Mail} (hb : btw p q m = true) : (m.fr = p ∧ m.to = q) ∨ (m.fr = q ∧ m.to = p) := by
  simpa [btw, Bool.or_eq_true, Bool.and_eq_true, beq_iff_eq] using hb
theorem Alone.arrive (h : Alone p q w v) {m m' : Mail} (hc : core m' = core m) (hb : btw p q m = true) (hr : (Wl.arrive w m).mails.length ≤ 150) : Alone p q (Wl.arrive w m) (Wl.arrive v m') := by
  obtain ⟨i1, k1, f1, o1, n1, t1⟩ := m
  obtain ⟨i2, k2, f2, o2, n2, t2⟩ := m'
  simp only [core, Prod.mk.injEq] at hc
  obtain ⟨rfl, rfl, rfl, rfl, rfl⟩ := hc
  have hbc := btw_cases hb
  simp only at hbc
  have hp : (f2.toNat, o2.toNat) = (p, q) ∨ (f2.toNat, o2.toNat) = (q, p) := by
    rcases hbc with ⟨rfl, rfl⟩ | ⟨rfl, rfl⟩
    · exact .inl rfl
    · exact .inr rfl
  have hp2 : (o2.toNat, f2.toNat) = (p, q) ∨ (o2.toNat, f2.toNat) = (q, p) := by
    rcases hbc with ⟨rfl, rfl⟩ | ⟨rfl, rfl⟩
    · exact .inr rfl
    · exact .inl rfl
  have e1 : v.tk f2.toNat o2.toNat = w.tk f2.toNat o2.toNat := by
    rcases hp with e | e <;> simp only [Prod.mk.injEq] at e <;> rw [e.1, e.2]
    · exact h.t1
    · exact h.t2
  have e2 : v.tk o2.toNat f2.toNat = w.tk o2.toNat f2.toNat := by
    rcases hp2 with e | e <;> simp only [Prod.mk.injEq] at e <;> rw [e.1, e.2]
    · exact h.t1
    · exact h.t2
  unfold Wl.arrive at hr ⊢
  simp only [e1, e2] at hr ⊢
  split
  · rename_i c
    rw [if_pos c] at hr
    have hb2 : ∀ x ∈ ([⟨0, 2, o2, f2, (if n2 = (w.tk f2.toNat o2.toNat).heard + 1 then (w.tk f2.toNat o2.toNat).heard + 1 else (w.tk f2.toNat o2.toNat).heard) + 1, ByteArray.empty⟩] : List Mail), btw p q x = true := by
      intro x hx
      simp only [List.mem_singleton] at hx
      subst hx
      rcases hbc with ⟨rfl, rfl⟩ | ⟨rfl, rfl⟩ <;> simp [btw]
    refine Alone.put ?_ hb2 rfl hr
    split
    · exact h.both hp _
    · exact h
  · split
    · have e3 : w.tick + w.wait = v.tick + v.wait := by rw [h.tick, h.wait]
      rw [e3]
      exact h.both hp2 _
    · exact h
theorem Alone.arriveOther (h : Alone p q w v) {m : Mail} (h0 : 0 ≤ m.fr) (h1 : 0 ≤ m.to) (hb : btw p q m = false) : Alone p q (Wl.arrive w m) v := by
  have hn : ¬ ((m.fr = p ∧ m.to = q) ∨ (m.fr = q ∧ m.to = p)) := fun e => by
    have : btw p q m = true := by simpa [btw, Bool.or_eq_true, Bool.and_eq_true, beq_iff_eq] using e
    rw [hb] at this; cases this
  have f1 : (m.fr.toNat, m.to.toNat) ≠ (p, q) := by
    intro e; simp only [Prod.mk.injEq] at e; exact hn (.inl ⟨by omega, by omega⟩)
  have f2 : (m.fr.toNat, m.to.toNat) ≠ (q, p) := by
    intro e; simp only [Prod.mk.injEq] at e; exact hn (.inr ⟨by omega, by omega⟩)
  have f3 : (m.to.toNat, m.fr.toNat) ≠ (p, q) := by
    intro e; simp only [Prod.mk.injEq] at e; exact hn (.inr ⟨by omega, by omega⟩)
  have f4 : (m.to.toNat, m.fr.toNat) ≠ (q, p) := by
    intro e; simp only [Prod.mk.injEq] at e; exact hn (.inl ⟨by omega, by omega⟩)
  unfold Wl.arrive
  split
  · refine Alone.putOther ?_ ?_
    · split
      · exact h.other f1 f2 _
      · exact h
    · intro x hx
      simp only [List.mem_singleton] at hx
      subst hx
      refine btw_false (a := m.to.toNat) (b := m.fr.toNat) f3 f4 ?_ ?_ <;> simp only <;> omega
  · split
    · exact h.other f3 f4 _
    · exact h
theorem Alone.sayBoth (h : Alone p q w v) {s : Step} (hab : (s.a = p ∧ s.b = q) ∨ (s.a = q ∧ s.b = p)) (hok : (sayW w s).2 = 0) (hr : (sayW w s).1.mails.length ≤ 150) : Alone p q (sayW w s).1 (sayW v s).1 := by
  have hp : (s.a.toNat, s.b.toNat) = (p, q) ∨ (s.a.toNat, s.b.toNat) = (q, p) := by
    rcases hab with ⟨e1, e2⟩ | ⟨e1, e2⟩ <;> rw [e1, e2]
    · exact .inl rfl
    · exact .inr rfl
  have e1 : v.tk s.a.toNat s.b.toNat = w.tk s.a.toNat s.b.toNat := by
    rcases hp with e | e <;> simp only [Prod.mk.injEq] at e <;> rw [e.1, e.2]
    · exact h.t1
    · exact h.t2
  have eP : isPair v s.a s.b = isPair w s.a s.b := by simp only [isPair, h.st]
  have hlen := h.len
  unfold sayW at hok hr ⊢
  rw [eP, e1]
  by_cases c1 : isPair w s.a s.b = false ∨ s.text.size > 40
  · rw [if_pos c1] at hok; cases hok
  rw [if_neg c1] at hr hok
  by_cases c2 : 60 ≤ (w.tk s.a.toNat s.b.toNat).said.length ∨ room w = 0
  · rw [if_pos c2] at hok; cases hok
  rw [if_neg c2] at hr hok
  have c3 : ¬ (60 ≤ (w.tk s.a.toNat s.b.toNat).said.length ∨ room v = 0) := by
    rintro (c3 | c3)
    · exact c2 (.inl c3)
    · have : room w ≤ room v := by simp only [room]; omega
      exact c2 (.inr (by omega))
  rw [if_neg c1, if_neg c1, if_neg c2, if_neg c3]
  refine Alone.put ?_ ?_ rfl hr
  · rw [h.tick, h.wait]; exact h.both hp _
  · intro x hx
    simp only [List.mem_singleton] at hx
    subst hx
    rcases hab with ⟨e1, e2⟩ | ⟨e1, e2⟩ <;> simp [btw, e1, e2]
theorem Alone.sayOther (h : Alone p q w v) {s : Step} (hab : ¬((s.a = p ∧ s.b = q) ∨ (s.a = q ∧ s.b = p))) : Alone p q (sayW w s).1 v := by
  unfold sayW
  split
  · exact h
  rename_i c1
  split
  · exact h
  have hP : isPair w s.a s.b = true := by
    cases hx : isPair w s.a s.b
    · exact absurd (.inl hx) c1
    · rfl
  obtain ⟨x, y, _, _, _, ha, hb⟩ := pair_iff.1 hP
  have f1 : (s.a.toNat, s.b.toNat) ≠ (p, q) := by
    intro e; simp only [Prod.mk.injEq] at e; exact hab (.inl ⟨by omega, by omega⟩)
  have f2 : (s.a.toNat, s.b.toNat) ≠ (q, p) := by
    intro e; simp only [Prod.mk.injEq] at e; exact hab (.inr ⟨by omega, by omega⟩)
  refine Alone.putOther (h.other f1 f2 _) ?_
  intro z hz
  simp only [List.mem_singleton] at hz
  subst hz
  refine btw_false (a := s.a.toNat) (b := s.b.toNat) f1 f2 ?_ ?_ <;> simp only <;> omega
theorem Alone.crashBoth (h : Alone p q w v) {a : Int} : Alone p q (crashW w a).1 (crashW v a).1 := by
  unfold crashW
  rw [show within a 0 (v.st - 1) = within a 0 (w.st - 1) by rw [h.st]]
  split
  · exact h
  refine ⟨h.st, h.wait, h.tick, ?_, ?_, fun x y h1 h2 => ?_, h.mails⟩
  · simp only [h.t1, h.tick]
  · simp only [h.t2, h.tick]
  · obtain ⟨g1, g2⟩ := h.rest x y h1 h2
    simp only
    split
    · exact ⟨g1, rfl⟩
    · exact ⟨g1, g2⟩
theorem Alone.crashOther (h : Alone p q w v) {a : Int} (h1 : a ≠ p) (h2 : a ≠ q) : Alone p q (crashW w a).1 v := by
  unfold crashW
  split
  · exact h
  rename_i c
  have ha : 0 ≤ a := by
    simp only [within, Bool.and_eq_false_iff, decide_eq_false_iff_not, not_or, Decidable.not_not] at c
    exact c.1
  refine ⟨h.st, h.wait, h.tick, ?_, ?_, h.rest, h.mails⟩
  · simp only [if_neg (show ¬ p = a.toNat by omega)]; exact h.t1
  · simp only [if_neg (show ¬ q = a.toNat by omega)]; exact h.t2
end
end Wl

namespace Wl
open Go.AM
/-- what a step with a mail does to a world -/
def mailGo (k : Int) (w : Wd) (i : Nat) (m : Mail) : Wd := if k = 3 then arrive { w with mails := w.mails.eraseIdx i } m else if k = 4 then { w with mails := w.mails.eraseIdx i } else putW w [m]
theorem find_some {w : Wd} {id : Int} {i : Nat} (h : findM w id = some i) : ∃ m, w.mails[i]? = some m ∧ m.id = id := by
  obtain ⟨h1, h2, _⟩ := List.findIdx?_eq_some_iff_getElem.1 h
  exact ⟨w.mails[i], List.getElem?_eq_getElem h1, by simpa using h2⟩
theorem doW_kind {w : Wd} {s : Step} (h : (doW w s).2 = 0) : lean s = true := by
  unfold doW at h
  split at h
  · cases h
  · rename_i c; cases hl : lean s
    · exact absurd hl c
    · rfl
theorem doW_mail {w : Wd} {s : Step} (hk : s.kind = 3 ∨ s.kind = 4 ∨ s.kind = 5) (h : (doW w s).2 = 0) : ∃ i m, w.mails[i]? = some m ∧ m.id = s.n ∧ (s.kind = 5 → room w ≠ 0) ∧ (doW w s).1 = mailGo s.kind w i m := by
  have hl := doW_kind h
  rw [doW_lean hl] at h ⊢
  unfold doL at h ⊢
  rw [if_neg (by omega), if_neg (by omega)] at h
  rw [if_neg (by omega), if_neg (by omega)]
  rcases hk with e | e | e
  · rw [if_pos e] at h ⊢
    unfold deliverW at h ⊢
    cases hf : findM w s.n with
    | none => simp only [hf] at h; cases h
    | some i =>
      obtain ⟨m, h1, h2⟩ := find_some hf
      refine ⟨i, m, h1, h2, by omega, ?_⟩
      simp only [h1, mailGo, if_pos e]
  · rw [if_neg (by omega), if_pos e] at h ⊢
    unfold loseW at h ⊢
    cases hf : findM w s.n with
    | none => simp only [hf] at h; cases h
    | some i =>
      obtain ⟨m, h1, h2⟩ := find_some hf
      refine ⟨i, m, h1, h2, by omega, ?_⟩
      simp only [mailGo, if_pos e]; rw [if_neg (by omega)]
  · rw [if_neg (by omega), if_neg (by omega), if_pos e] at h ⊢
    unfold doubleW at h ⊢
    cases hf : findM w s.n with
    | none => simp only [hf] at h; cases h
    | some i =>
      obtain ⟨m, h1, h2⟩ := find_some hf
      simp only [hf] at h ⊢
      split at h
      · cases h
      rename_i c
      refine ⟨i, m, h1, h2, fun _ => c, ?_⟩
      rw [if_neg c]
      simp only [h1, mailGo]
      rw [if_neg (by omega), if_neg (by omega)]
theorem doW_mail' {v : Wd} {k : Int} {j : Nat} {m : Mail} (hj : Ids v) (hk : k = 3 ∨ k = 4 ∨ k = 5) (hm : v.mails[j]? = some m) (hr : k = 5 → room v ≠ 0) : (doW v ⟨k, 0, 0, m.id, ByteArray.empty⟩).1 = mailGo k v j m := by
  have hf := hj.find hm
  have hl : lean ⟨k, 0, 0, m.id, ByteArray.empty⟩ = true := by
    rcases hk with rfl | rfl | rfl <;> simp [lean]
  rw [doW_lean hl]
  unfold doL
  simp only
  rcases hk with rfl | rfl | rfl
  · rw [if_neg (by omega), if_neg (by omega), if_pos rfl]
    simp only [deliverW, hf, hm, mailGo, if_true]
  · rw [if_neg (by omega), if_neg (by omega), if_neg (by omega), if_pos rfl]
    simp only [loseW, hf, mailGo, if_true]; rw [if_neg (by omega)]
  · rw [if_neg (by omega), if_neg (by omega), if_neg (by omega), if_neg (by omega), if_pos rfl]
    simp only [doubleW, hf, hm, mailGo]
    rw [if_neg (hr rfl), if_neg (by omega), if_neg (by omega)]
section
variable {p q : Nat} {w v : Wd}
theorem Alone.mailBoth (h : Alone p q w v) (hi : Ids w) (hj : Ids v) {s : Step} {i : Nat} {m : Mail} (hk : s.kind = 3 ∨ s.kind = 4 ∨ s.kind = 5) (hok : (doW w s).2 = 0) (hr : (doW w s).1.mails.length ≤ 150)
    (hm : w.mails[i]? = some m) (hb : btw p q m = true) (hid : m.id = s.n) :
    ∃ m', v.mails[((w.mails.take i).filter (btw p q)).length]? = some m' ∧ Alone p q (doW w s).1 (doW v ⟨s.kind, 0, 0, m'.id, ByteArray.empty⟩).1 := by
  obtain ⟨m', h1, h2⟩ := h.mail hm hb
  obtain ⟨i2, m2, g1, g2, g3, g4⟩ := doW_mail hk hok
  have e1 := hi.find hm
  have e2 := hi.find g1
  rw [hid] at e1
  rw [g2, e1] at e2
  cases e2
  rw [hm] at g1
  cases g1
  have hlen := h.len
  refine ⟨m', h1, ?_⟩
  rw [g4, doW_mail' hj hk h1 (fun e => by have := g3 e; simp only [room] at *; omega)]
  rw [g4] at hr
  unfold mailGo at hr ⊢
  rcases hk with e | e | e
  · rw [if_pos e] at hr ⊢
    rw [if_pos e]
    exact (h.eraseBoth hm hb).arrive h2 hb hr
  · rw [if_neg (by omega), if_pos e, if_neg (by omega), if_pos e]
    exact h.eraseBoth hm hb
  · rw [if_neg (by omega), if_neg (by omega)] at hr ⊢
    rw [if_neg (by omega), if_neg (by omega)]
    refine h.put ?_ (by simp [h2]) hr
    intro x hx
    simp only [List.mem_singleton] at hx
    subst hx; exact hb
theorem Alone.mailOther (h : Alone p q w v) (hw : Wok w) {s : Step} (hk : s.kind = 3 ∨ s.kind = 4 ∨ s.kind = 5) (hok : (doW w s).2 = 0) (hn : ∀ m ∈ w.mails, btw p q m = true → m.id ≠ s.n) : Alone p q (doW w s).1 v := by
  obtain ⟨i, m, g1, g2, g3, g4⟩ := doW_mail hk hok
  have hmem : m ∈ w.mails := List.mem_of_getElem? g1
  have hb : btw p q m = false := by
    cases hx : btw p q m
    · rfl
    · exact absurd g2 (hn m hmem hx)
  obtain ⟨x, y, _, _, _, ha, hb2⟩ := pair_iff.1 (hw.ms m hmem).1
  rw [g4]
  unfold mailGo
  rcases hk with e | e | e
  · rw [if_pos e]
    exact (h.eraseOther g1 hb).arriveOther (by omega) (by omega) hb
  · rw [if_neg (by omega), if_pos e]
    exact h.eraseOther g1 hb
  · rw [if_neg (by omega), if_neg (by omega)]
    refine h.putOther ?_
    intro x hx
    simp only [List.mem_singleton] at hx
    subst hx; exact hb
/-- a step of words, of time or of a crash that concerns both -/
def conc (p q : Nat) (s : Step) : Prop := (s.kind = 1 ∧ ((s.a = p ∧ s.b = q) ∨ (s.a = q ∧ s.b = p))) ∨ s.kind = 2 ∨ (s.kind = 6 ∧ (s.a = p ∨ s.a = q))
theorem lean_kind {s : Step} (h : lean s = true) : s.kind = 1 ∨ s.kind = 2 ∨ s.kind = 3 ∨ s.kind = 4 ∨ s.kind = 5 ∨ s.kind = 6 := by
  simp only [lean, Bool.or_eq_true, Bool.and_eq_true, beq_iff_eq] at h
  omega
theorem Alone.stepBoth (h : Alone p q w v) {s : Step} (hc : conc p q s) (hok : (doW w s).2 = 0) (hr : (doW w s).1.mails.length ≤ 150) : Alone p q (doW w s).1 (doW v s).1 := by
  have hl := doW_kind hok
  rw [doW_lean hl] at hok hr ⊢
  rw [doW_lean hl]
  unfold doL at hok hr ⊢
  rcases hc with ⟨e, c⟩ | e | ⟨e, c⟩
  · rw [if_pos e] at hok hr ⊢
    rw [if_pos e]
    exact h.sayBoth c hok hr
  · rw [if_neg (by omega), if_pos e] at hok hr ⊢
    rw [if_neg (by omega), if_pos e]
    exact h.time _ hok hr
  · rw [if_neg (by omega), if_neg (by omega), if_neg (by omega), if_neg (by omega), if_neg (by omega)] at hok hr ⊢
    rw [if_neg (by omega), if_neg (by omega), if_neg (by omega), if_neg (by omega), if_neg (by omega)]
    exact h.crashBoth
theorem Alone.stepOther (h : Alone p q w v) {s : Step} (hc : ¬ conc p q s) (hk : ¬ (s.kind = 3 ∨ s.kind = 4 ∨ s.kind = 5)) (hok : (doW w s).2 = 0) : Alone p q (doW w s).1 v := by
  have hl := doW_kind hok
  have hkk := lean_kind hl
  rw [doW_lean hl] at hok ⊢
  unfold doL at hok ⊢
  simp only [conc, not_or, not_and] at hc
  obtain ⟨c1, c2, c3⟩ := hc
  by_cases e : s.kind = 1
  · rw [if_pos e]
    refine h.sayOther ?_
    rintro (⟨a1, a2⟩ | ⟨a1, a2⟩)
    · exact (c1 e).1 a1 a2
    · exact (c1 e).2 a1 a2
  · have e6 : s.kind = 6 := by omega
    rw [if_neg (by omega), if_neg (by omega), if_neg (by omega), if_neg (by omega), if_neg (by omega)]
    exact h.crashOther (c3 e6).1 (c3 e6).2
theorem Alone.new (st : Nat) (wait : Int) : Alone p q (newW st wait) (newW st wait) :=
  ⟨rfl, rfl, rfl, rfl, rfl, fun _ _ _ _ => ⟨rfl, rfl⟩, rfl⟩
theorem Ids.new (st : Nat) (wait : Int) : Ids (newW st wait) := ⟨List.Pairwise.nil, fun m h => by cases h⟩
theorem pair_st {x y : Wd} (h : x.st = y.st) (a b : Int) : isPair x a b = isPair y a b := by unfold isPair; rw [h]
theorem Alone.dues (h : Alone p q w v) : dueW v (p : Int) (q : Int) = dueW w (p : Int) (q : Int) := by
  simp only [dueW, pair_st h.st, Int.toNat_natCast, h.t1]
theorem Alone.hr1 (h : Alone p q w v) : heardW v (q : Int) (p : Int) = heardW w (q : Int) (p : Int) := by
  simp only [heardW, pair_st h.st, Int.toNat_natCast, h.t1]
theorem Alone.hr2 (h : Alone p q w v) : heardW v (p : Int) (q : Int) = heardW w (p : Int) (q : Int) := by
  simp only [heardW, pair_st h.st, Int.toNat_natCast, h.t2]
theorem Alone.op1 (h : Alone p q w v) : openW v (p : Int) (q : Int) = openW w (p : Int) (q : Int) := by
  simp only [openW, pair_st h.st, Int.toNat_natCast, h.t1]
theorem Alone.op2 (h : Alone p q w v) : openW v (q : Int) (p : Int) = openW w (q : Int) (p : Int) := by
  simp only [openW, pair_st h.st, Int.toNat_natCast, h.t2]
end
end Wl
