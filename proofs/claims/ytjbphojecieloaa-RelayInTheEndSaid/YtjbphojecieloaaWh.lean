/- In the end all words are heard: the plain law; walks: words, latest, settle; RelayInTheEnd over the abstract machine. Conditions: as each theorem says. -/
import Derived.Test.YtjbphojecieloaaWg
namespace Wl
open Go.AM
def wt (m : Mail) : Nat := if m.kind = 1 then 2 else 1
def wts : List Mail → Nat
  | [] => 0
  | m :: r => wt m + wts r
theorem wts_append : ∀ (a b : List Mail), wts (a ++ b) = wts a + wts b
  | [], b => by simp [wts]
  | m :: r, b => by simp [wts, wts_append r b]; omega
theorem wts_erase : ∀ {l : List Mail} {i : Nat} {m : Mail}, l[i]? = some m → wts (l.eraseIdx i) + wt m = wts l
  | [], i, m, h => by simp at h
  | x :: r, 0, m, h => by simp at h; subst h; simp [wts]; omega
  | x :: r, i + 1, m, h => by
    have := wts_erase (l := r) (i := i) (m := m) (by simpa using h)
    simp [wts]; omega
theorem wts_le : ∀ (l : List Mail), wts l ≤ 2 * l.length
  | [] => by simp [wts]
  | m :: r => by
    have := wts_le r
    have : wt m ≤ 2 := by unfold wt; split <;> omega
    simp [wts]; omega
theorem wts_zero : ∀ {l : List Mail}, wts l = 0 → l = []
  | [], _ => rfl
  | m :: r, h => by
    have : 1 ≤ wt m := by unfold wt; split <;> omega
    simp [wts] at h; omega
theorem wts_stamp : ∀ (k : Int) (l : List Mail), wts (stamp k l) = wts l
  | _, [] => rfl
  | k, m :: r => by simp [stamp, wts, wts_stamp (k + 1) r, wt]
/-- a mail is found by its ID -/
theorem find_mem {w : Wd} {m : Mail} (hm : m ∈ w.mails) : ∃ i m', findM w m.id = some i ∧ w.mails[i]? = some m' ∧ m' ∈ w.mails := by
  cases h : findM w m.id with
  | none =>
    have := List.findIdx?_eq_none_iff.1 h m hm
    simp at this
  | some i =>
    have h2 := find_lt h
    exact ⟨i, w.mails[i], rfl, List.getElem?_eq_getElem h2, List.getElem_mem h2⟩
theorem mem_erase {l : List Mail} {i : Nat} {m z : Mail} (h : l[i]? = some m) (hz : z ∈ l) : z = m ∨ z ∈ l.eraseIdx i := by
  obtain ⟨j, hj⟩ := List.mem_iff_getElem?.1 hz
  by_cases e : j = i
  · subst e; rw [h] at hj; cases hj; exact .inl rfl
  · refine .inr (List.mem_iff_getElem?.2 ?_)
    rcases Nat.lt_or_ge j i with h1 | h1
    · exact ⟨j, by rw [List.getElem?_eraseIdx_of_lt h1]; exact hj⟩
    · exact ⟨j - 1, by rw [List.getElem?_eraseIdx_of_ge (by omega)]; rw [show j - 1 + 1 = j by omega]; exact hj⟩
/-- what a delivery does -/
structure Dst (w w' : Wd) (m : Mail) : Prop where
  st : w'.st = w.st
  wait : w'.wait = w.wait
  tick : w'.tick = w.tick
  wt : wts w'.mails + 1 = wts w.mails
  said : ∀ x y, (w'.tk x y).said = (w.tk x y).said
  heard : ∀ x y, (w.tk x y).heard ≤ (w'.tk x y).heard
  known : ∀ x y, ((w'.tk x y).known = (w.tk x y).known ∧ (w'.tk x y).due = (w.tk x y).due) ∨ (w.tk x y).known < (w'.tk x y).known
  mem : ∀ z ∈ w.mails, z = m ∨ z ∈ w'.mails
  word : ∀ x y : Nat, m.kind = 1 → m.fr = x → m.to = y → (m.num = (w.tk x y).heard + 1 → (w'.tk x y).heard = (w.tk x y).heard + 1) ∧ ∃ z ∈ w'.mails, z.kind = 2 ∧ z.fr = y ∧ z.to = x ∧ z.num = (w'.tk x y).heard + 1
  rcpt : ∀ x y : Nat, m.kind = 2 → m.to = x → m.fr = y → m.num - 1 ≤ (w'.tk x y).known
theorem put_one {w : Wd} {m : Mail} (h : w.mails.length < 200) : (putW w [m]).mails = w.mails ++ [{ m with id := w.last + 1 }] := by
  have : List.take (room w) [m] = [m] := List.take_of_length_le (by simp [room]; omega)
  simp only [putW, this, stamp]
theorem dst {w : Wd} (hw : Wok w) {m0 : Mail} (hm0 : m0 ∈ w.mails) : ∃ w' m, deliverW w m0.id = (w', 0) ∧ m ∈ w.mails ∧ Dst w w' m ∧ Wok w' := by
  obtain ⟨i, m, h1, h2, h3⟩ := find_mem hm0
  have hd : deliverW w m0.id = (arrive { w with mails := w.mails.eraseIdx i } m, 0) := by
    unfold deliverW; rw [h1]; simp only [h2]
  have hok := hw.deliver m0.id
  rw [hd] at hok
  refine ⟨_, m, hd, h3, ?_, hok⟩
  have hlen : (w.mails.eraseIdx i).length < 200 := by
    have h4 := find_lt h1
    have h5 := hw.ml
    rw [List.length_eraseIdx]; simp [h4]; omega
  have hwt := wts_erase h2
  obtain ⟨hp, hk⟩ := hw.ms m h3
  obtain ⟨x, y, hx, hy, hxy, e1, e2⟩ := pair_iff.1 hp
  have hx1 : m.fr.toNat = x := by omega
  have hy1 : m.to.toNat = y := by omega
  rw [hx1, hy1] at hk
  unfold arrive
  simp only [hx1, hy1]
  rcases hk with ⟨k1, n1, n2⟩ | ⟨k1, n1, n2⟩
  · have hw2 : wt m = 2 := by simp [wt, k1]
    rw [if_pos k1]
    by_cases hc : m.num = (w.tk x y).heard + 1
    · rw [if_pos hc, if_pos hc]
      have hml : (setT { w with mails := w.mails.eraseIdx i } x y { w.tk x y with heard := (w.tk x y).heard + 1 }).mails.length < 200 := hlen
      have hput := put_one (m := ⟨0, 2, m.to, m.fr, (w.tk x y).heard + 1 + 1, ByteArray.empty⟩) hml
      refine ⟨rfl, rfl, rfl, ?_, fun p q => ?_, fun p q => ?_, fun p q => ?_, fun z hz => ?_, fun p q _ f1 f2 => ?_, fun p q kk => ?_⟩
      · rw [hput, wts_append]
        simp only [setT, wts, wt]
        simp only [wt] at hwt hw2
        simp; omega
      · simp only [putW, setT]; split
        · rename_i e; rw [e.1, e.2]
        · rfl
      · simp only [putW, setT]; split
        · rename_i e; rw [e.1, e.2]; simp only; omega
        · exact Int.le_refl _
      · simp only [putW, setT]; split
        · rename_i e; rw [e.1, e.2]; exact .inl ⟨rfl, rfl⟩
        · exact .inl ⟨rfl, rfl⟩
      · rw [hput]
        rcases mem_erase h2 hz with h | h
        · exact .inl h
        · exact .inr (List.mem_append.2 (.inl h))
      · have : p = x := by omega
        have : q = y := by omega
        subst p q
        have eh : ((putW (setT { w with mails := w.mails.eraseIdx i } x y { w.tk x y with heard := (w.tk x y).heard + 1 }) [⟨0, 2, m.to, m.fr, (w.tk x y).heard + 1 + 1, ByteArray.empty⟩]).tk x y).heard = (w.tk x y).heard + 1 := by simp [putW, setT]
        refine ⟨fun _ => eh, _, by rw [hput]; exact List.mem_append.2 (.inr (List.mem_singleton.2 rfl)), rfl, ?_, ?_, ?_⟩
        · exact e2
        · exact e1
        · simp only; rw [eh]
      · omega
    · rw [if_neg hc, if_neg hc]
      have hml : ({ w with mails := w.mails.eraseIdx i } : Wd).mails.length < 200 := hlen
      have hput := put_one (m := ⟨0, 2, m.to, m.fr, (w.tk x y).heard + 1, ByteArray.empty⟩) hml
      refine ⟨rfl, rfl, rfl, ?_, fun p q => rfl, fun p q => Int.le_refl _, fun p q => .inl ⟨rfl, rfl⟩, fun z hz => ?_, fun p q _ f1 f2 => ?_, fun p q kk => ?_⟩
      · rw [hput, wts_append]
        simp only [wts, wt]
        simp only [wt] at hwt hw2
        simp; omega
      · rw [hput]
        rcases mem_erase h2 hz with h | h
        · exact .inl h
        · exact .inr (List.mem_append.2 (.inl h))
      · have : p = x := by omega
        have : q = y := by omega
        subst p q
        refine ⟨fun e => absurd e hc, _, by rw [hput]; exact List.mem_append.2 (.inr (List.mem_singleton.2 rfl)), rfl, ?_, ?_, rfl⟩
        · exact e2
        · exact e1
      · omega
  · have hw2 : wt m = 1 := by simp [wt, k1]
    rw [if_neg (by omega)]
    split
    · rename_i hc
      refine ⟨rfl, rfl, rfl, ?_, fun p q => ?_, fun p q => ?_, fun p q => ?_, fun z hz => ?_, fun p q kk => ?_, fun p q _ f1 f2 => ?_⟩
      · simp only [setT]; omega
      · simp only [setT]; split
        · rename_i e; rw [e.1, e.2]
        · rfl
      · simp only [setT]; split
        · rename_i e; rw [e.1, e.2]; exact Int.le_refl _
        · exact Int.le_refl _
      · simp only [setT]; split
        · rename_i e; rw [e.1, e.2]; exact .inr (by simp only; omega)
        · exact .inl ⟨rfl, rfl⟩
      · exact mem_erase h2 hz
      · omega
      · have : p = y := by omega
        have : q = x := by omega
        subst p q
        simp [setT]
    · rename_i hc
      refine ⟨rfl, rfl, rfl, ?_, fun p q => rfl, fun p q => Int.le_refl _, fun p q => .inl ⟨rfl, rfl⟩, fun z hz => mem_erase h2 hz, fun p q kk => ?_, fun p q _ f1 f2 => ?_⟩
      · simp only; omega
      · omega
      · have : p = y := by omega
        have : q = x := by omega
        subst p q
        simp only; omega
/-- deliveries, one after another -/
inductive Dls (w : Wd) : Wd → Nat → Prop where
  | refl : Dls w w 0
  | step {w1 w2 : Wd} {k : Nat} {m : Mail} : Dls w w1 k → m ∈ w1.mails → Wok w1 → Dst w1 w2 m → Wok w2 → Dls w w2 (k + 1)
structure Dgo (w w' : Wd) : Prop where
  st : w'.st = w.st
  wait : w'.wait = w.wait
  tick : w'.tick = w.tick
  said : ∀ x y, (w'.tk x y).said = (w.tk x y).said
  heard : ∀ x y, (w.tk x y).heard ≤ (w'.tk x y).heard
  known : ∀ x y, ((w'.tk x y).known = (w.tk x y).known ∧ (w'.tk x y).due = (w.tk x y).due) ∨ (w.tk x y).known < (w'.tk x y).known
theorem Dls.go {w w' : Wd} {k : Nat} (h : Dls w w' k) : Dgo w w' ∧ wts w'.mails + k = wts w.mails := by
  induction h with
  | refl => exact ⟨⟨rfl, rfl, rfl, fun _ _ => rfl, fun _ _ => Int.le_refl _, fun _ _ => .inl ⟨rfl, rfl⟩⟩, rfl⟩
  | step _ _ _ d _ ih =>
    obtain ⟨g, e⟩ := ih
    refine ⟨⟨d.st.trans g.st, d.wait.trans g.wait, d.tick.trans g.tick, fun x y => (d.said x y).trans (g.said x y), fun x y => Int.le_trans (g.heard x y) (d.heard x y), fun x y => ?_⟩, by have := d.wt; omega⟩
    rcases g.known x y with ⟨a, b⟩ | a <;> rcases d.known x y with ⟨c, e⟩ | c
    · exact .inl ⟨c.trans a, e.trans b⟩
    · exact .inr (by omega)
    · exact .inr (by omega)
    · exact .inr (by omega)
theorem Dls.ok {w w' : Wd} {k : Nat} (h : Dls w w' k) (hw : Wok w) : Wok w' := by
  cases h with
  | refl => exact hw
  | step _ _ _ _ h => exact h
/-- that a talk's knowledge reaches a number is under way -/
def Pend (K h0 : Int) (a b : Nat) (w : Wd) : Prop :=
  K ≤ (w.tk a b).known ∨ (∃ m ∈ w.mails, m.kind = 2 ∧ m.to = a ∧ m.fr = b ∧ K ≤ m.num - 1) ∨ (h0 ≤ (w.tk a b).heard ∧ ∃ m ∈ w.mails, m.kind = 1 ∧ m.fr = a ∧ m.to = b ∧ m.num = h0 + 1) ∨ (K ≤ (w.tk a b).heard ∧ ∃ m ∈ w.mails, m.kind = 1 ∧ m.fr = a ∧ m.to = b)
theorem Pend.step {K h0 : Int} {a b : Nat} {w w' : Wd} {m : Mail} (hK : K ≤ h0 + 1) (d : Dst w w' m) (h : Pend K h0 a b w) : Pend K h0 a b w' := by
  have hh := d.heard a b
  have hk : (w.tk a b).known ≤ (w'.tk a b).known := by rcases d.known a b with h | h <;> omega
  rcases h with h | ⟨z, hz, k1, k2, k3, k4⟩ | ⟨h1, z, hz, k1, k2, k3, k4⟩ | ⟨h1, z, hz, k1, k2, k3⟩
  · exact .inl (by omega)
  · rcases d.mem z hz with rfl | h
    · exact .inl (by have := d.rcpt a b k1 k2 k3; omega)
    · exact .inr (.inl ⟨z, h, k1, k2, k3, k4⟩)
  · rcases d.mem z hz with rfl | h
    · obtain ⟨e1, y, hy, y1, y2, y3, y4⟩ := d.word a b k1 k2 k3
      refine .inr (.inl ⟨y, hy, y1, y3, y2, ?_⟩)
      by_cases e : (w.tk a b).heard = h0
      · have := e1 (by omega); omega
      · omega
    · exact .inr (.inr (.inl ⟨by omega, z, h, k1, k2, k3, k4⟩))
  · rcases d.mem z hz with rfl | h
    · obtain ⟨_, y, hy, y1, y2, y3, y4⟩ := d.word a b k1 k2 k3
      exact .inr (.inl ⟨y, hy, y1, y3, y2, by omega⟩)
    · exact .inr (.inr (.inr ⟨by omega, z, h, k1, k2, k3⟩))
theorem Pend.dls {K h0 : Int} {a b : Nat} {w w' : Wd} {k : Nat} (hK : K ≤ h0 + 1) (d : Dls w w' k) (h : Pend K h0 a b w) : Pend K h0 a b w' := by
  induction d with
  | refl => exact h
  | step _ _ _ d _ ih => exact ih.step hK d
theorem Pend.done {K h0 : Int} {a b : Nat} {w : Wd} (h : Pend K h0 a b w) (hm : w.mails = []) : K ≤ (w.tk a b).known := by
  rcases h with h | ⟨z, hz, _⟩ | ⟨_, z, hz, _⟩ | ⟨_, z, hz, _⟩
  · exact h
  all_goals rw [hm] at hz; cases hz
end Wl

namespace Wl
open Go.AM
def sz (w : Wd) (q : Nat × Nat) : Nat := (saidW w q.1 q.2).length
def szs (w : Wd) : List (Nat × Nat) → Nat
  | [] => 0
  | q :: r => sz w q + szs w r
theorem szs_same {w w' : Wd} (hst : w'.st = w.st) (hs : ∀ x y, (w'.tk x y).said = (w.tk x y).said) : ∀ l, szs w' l = szs w l
  | [] => rfl
  | q :: r => by rw [szs, szs, szs_same hst hs r]; simp [sz, saidW, isPair, hst, hs]
theorem sz_pair {w : Wd} {a b : Nat} (ha : a < w.st) (hb : b < w.st) (hab : a ≠ b) : sz w (a, b) = (w.tk a b).said.length := by
  have : isPair w a b = true := pair_iff.2 ⟨a, b, ha, hb, hab, rfl, rfl⟩
  simp [sz, saidW, this]
theorem sz_le {w : Wd} : ∀ {l : List (Nat × Nat)} {q : Nat × Nat}, q ∈ l → sz w q ≤ szs w l
  | p :: r, q, h => by
    rcases List.mem_cons.1 h with rfl | h
    · simp [szs]
    · have := sz_le (w := w) h; simp [szs]; omega
theorem stamp_mem2 {k : Int} {l : List Mail} {m : Mail} (h : m ∈ l) : ∃ z ∈ stamp k l, z.kind = m.kind ∧ z.fr = m.fr ∧ z.to = m.to ∧ z.num = m.num := by
  induction l generalizing k with
  | nil => cases h
  | cons x r ih =>
    rcases List.mem_cons.1 h with rfl | h
    · exact ⟨{ m with id := k + 1 }, by simp [stamp], rfl, rfl, rfl, rfl⟩
    · obtain ⟨z, hz, e⟩ := ih (k := k + 1) h
      exact ⟨z, by simp [stamp, hz], e⟩
theorem timeP_said (w : Wd) (a b x y : Nat) : ((timeP w a b).tk x y).said = (w.tk x y).said ∧ ((timeP w a b).tk x y).heard = (w.tk x y).heard ∧ ((timeP w a b).tk x y).known = (w.tk x y).known ∧ ((x, y) ≠ (a, b) → ((timeP w a b).tk x y).due = (w.tk x y).due) := by
  unfold timeP
  split
  · exact ⟨rfl, rfl, rfl, fun _ => rfl⟩
  · simp only [setT, putW]
    split
    · rename_i e; rw [e.1, e.2]; exact ⟨rfl, rfl, rfl, fun h => absurd rfl h⟩
    · exact ⟨rfl, rfl, rfl, fun _ => rfl⟩
theorem timeP_mem (w : Wd) (a b : Nat) : ∀ z ∈ w.mails, z ∈ (timeP w a b).mails := by
  intro z hz
  unfold timeP
  split
  · exact hz
  · exact List.mem_append.2 (.inl hz)
theorem timeP_len {w : Wd} {a b : Nat} (ha : a < w.st) (hb : b < w.st) : (timeP w a b).mails.length ≤ w.mails.length + sz w (a, b) := by
  unfold timeP
  split
  · omega
  · rename_i h
    have hab : a ≠ b := fun e => h (.inl e)
    rw [sz_pair ha hb hab]
    simp only [setT, putW, List.length_append, stamp_length, List.length_take, resend_len]
    omega
theorem timeP_put {w : Wd} {a b : Nat} (hab : a ≠ b) (ho : opn (w.tk a b) ≠ 0) (hd : (w.tk a b).due ≤ w.tick) (hr : (w.tk a b).said.length ≤ room w) (hk : 0 ≤ (w.tk a b).known) {j : Nat} (h1 : (w.tk a b).known ≤ j) (h2 : j < (w.tk a b).said.length) :
    ∃ z ∈ (timeP w a b).mails, z.kind = 1 ∧ z.fr = a ∧ z.to = b ∧ z.num = (j : Int) + 1 := by
  have hc : ¬(a = b ∨ opn (w.tk a b) = 0 ∨ (w.tk a b).due > w.tick) := by
    rintro (h | h | h)
    · exact hab h
    · exact ho h
    · omega
  unfold timeP
  rw [if_neg hc]
  obtain ⟨kn, hkn⟩ : ∃ kn : Nat, (w.tk a b).known = kn := ⟨(w.tk a b).known.toNat, by omega⟩
  have hj := resend_at (a := a) (b := b) (k := j - kn) hkn (by omega)
  have hkj : kn + (j - kn) = j := by omega
  simp only [hkj] at hj
  have htake : (resend a b (w.tk a b)).take (room w) = resend a b (w.tk a b) := List.take_of_length_le (by rw [resend_len]; omega)
  obtain ⟨z, hz, e1, e2, e3, e4⟩ := stamp_mem2 (k := w.last) (List.mem_of_getElem? hj)
  refine ⟨z, ?_, e1, e2, e3, e4⟩
  simp only [setT, putW, htake]
  exact List.mem_append.2 (.inr hz)
theorem timeGo_all : ∀ (l : List (Nat × Nat)) {w : Wd}, (∀ p ∈ l, p.1 < w.st ∧ p.2 < w.st) → w.mails.length + szs w l ≤ 200 → (∀ x y, 0 ≤ (w.tk x y).known) →
    (∀ x y, ((timeGo w l).tk x y).said = (w.tk x y).said ∧ ((timeGo w l).tk x y).heard = (w.tk x y).heard ∧ ((timeGo w l).tk x y).known = (w.tk x y).known) ∧ (∀ z ∈ w.mails, z ∈ (timeGo w l).mails) ∧
    ∀ a b, (a, b) ∈ l → a ≠ b → opn (w.tk a b) ≠ 0 → (w.tk a b).due ≤ w.tick → ∀ j : Nat, (w.tk a b).known ≤ j → j < (w.tk a b).said.length → ∃ z ∈ (timeGo w l).mails, z.kind = 1 ∧ z.fr = a ∧ z.to = b ∧ z.num = (j : Int) + 1
  | [], w, _, _, _ => ⟨fun _ _ => ⟨rfl, rfl, rfl⟩, fun z hz => hz, fun a b h => by cases h⟩
  | (p, q) :: r, w, hl, hs, hk => by
    have hpq : p < w.st ∧ q < w.st := hl (p, q) (by simp)
    have hP := timeP_said w p q
    have hst := timeP_st w p q
    have hsz : szs (timeP w p q) r = szs w r := szs_same hst (fun x y => (hP x y).1) r
    have hlen := timeP_len (w := w) hpq.1 hpq.2
    simp only [szs] at hs
    obtain ⟨i1, i2, i3⟩ := timeGo_all r (w := timeP w p q) (fun z hz => by rw [hst]; exact hl z (by simp [hz])) (by rw [hsz]; omega) (fun x y => by rw [(hP x y).2.2.1]; exact hk x y)
    refine ⟨fun x y => ⟨(i1 x y).1.trans (hP x y).1, (i1 x y).2.1.trans (hP x y).2.1, (i1 x y).2.2.trans (hP x y).2.2.1⟩, fun z hz => i2 z (timeP_mem w p q z hz), fun a b hab hne ho hd j h1 h2 => ?_⟩
    by_cases e : (a, b) = (p, q)
    · cases e
      obtain ⟨z, hz, e⟩ := timeP_put hne ho hd (by rw [← sz_pair hpq.1 hpq.2 hne]; simp only [room]; omega) (hk _ _) h1 h2
      exact ⟨z, i2 z hz, e⟩
    · rcases List.mem_cons.1 hab with h | h
      · exact absurd h e
      · have ht := (timeP_ck w p q).1
        obtain ⟨e1, e2, e3, e4⟩ := hP a b
        refine i3 a b h hne ?_ ?_ j (by rw [e3]; exact h1) (by rw [e1]; exact h2)
        · simp only [opn, e1, e3]; simpa only [opn] using ho
        · rw [e4 e, ht]; exact hd
/-- a round: all mails delivered, the time goes on, all mails delivered -/
theorem round {w w1 w3 : Wd} {k1 k2 : Nat} {nx : Int} (hw : Wok w) (d1 : Dls w w1 k1) (e1 : w1.mails = []) (hn0 : w.tick ≤ nx) (hn1 : nx ≤ 1048576)
    (hdue : ∀ a b, a < w.st → b < w.st → a ≠ b → opn (w.tk a b) ≠ 0 → (w.tk a b).due ≤ nx) (hsz : szs w (grid w.st) ≤ 200) (d2 : Dls (timeW w1 nx).1 w3 k2) (e3 : w3.mails = []) :
    Wok w3 ∧ w3.st = w.st ∧ (∀ x y, (w3.tk x y).said = (w.tk x y).said) ∧ ∀ a b, a < w.st → b < w.st → a ≠ b → ((w.tk a b).said.length : Int) ≤ (w3.tk a b).known ∨ (w.tk a b).known + 1 ≤ (w3.tk a b).known := by
  obtain ⟨g1, _⟩ := d1.go
  have hw1 := d1.ok hw
  have ht : timeW w1 nx = (timeGo { w1 with tick := nx } (grid w1.st), 0) := by
    rw [timeW, if_neg]
    rw [g1.tick]
    have : within nx w.tick 1048576 = true := Wl.within_iff.2 ⟨hn0, hn1⟩
    rw [this]; simp
  have hw2 : Wok (timeW w1 nx).1 := hw1.time nx
  obtain ⟨g2, _⟩ := d2.go
  have hw3 := d2.ok hw2
  rw [ht] at g2 d2 hw2
  simp only at g2 d2 hw2
  have hst : w1.st = w.st := g1.st
  have hall := timeGo_all (grid w1.st) (w := { w1 with tick := nx }) (fun p hp => mem_grid.1 hp) (by
    have : szs { w1 with tick := nx } (grid w1.st) = szs w (grid w1.st) := szs_same (w := w) (w' := { w1 with tick := nx }) hst (fun x y => g1.said x y) _
    rw [this, hst]
    show w1.mails.length + _ ≤ 200
    rw [e1]; simpa using hsz) (fun x y => (hw1.tk x y).k0)
  obtain ⟨i1, _, i3⟩ := hall
  have hs3 : ∀ x y, (w3.tk x y).said = (w.tk x y).said := fun x y => (g2.said x y).trans ((i1 x y).1.trans (g1.said x y))
  refine ⟨hw3, ?_, hs3, fun a b ha hb hab => ?_⟩
  · rw [g2.st, timeGo_st]; exact hst
  have t0 := hw.tk a b
  have t1 := hw1.tk a b
  have t3 := hw3.tk a b
  have s1 := g1.said a b
  have j1 := i1 a b
  have hk31 : (w1.tk a b).known ≤ (w3.tk a b).known := by
    have h2 := g2.known a b
    rw [j1.2.2] at h2
    rcases h2 with h | h
    · rw [h.1]; exact Int.le_refl _
    · exact Int.le_of_lt h
  by_cases ho : opn (w1.tk a b) = 0
  · left
    have : (w1.tk a b).known = (w1.tk a b).said.length := by unfold opn at ho; omega
    rw [s1] at this; omega
  rcases g1.known a b with ⟨hk, hd⟩ | hk
  · have ho2 : opn (w.tk a b) ≠ 0 := by unfold opn at ho ⊢; rw [s1, hk] at ho; exact ho
    have hdn := hdue a b ha hb hab ho2
    have hmem : (a, b) ∈ grid w1.st := mem_grid.2 ⟨by rw [hst]; exact ha, by rw [hst]; exact hb⟩
    have hres := i3 a b hmem hab ho (by show (w1.tk a b).due ≤ nx; rw [hd]; exact hdn)
    have hopn : (w1.tk a b).known < (w1.tk a b).said.length := by
      have := t1.kh; have := t1.hs; unfold opn at ho; omega
    by_cases hh : (w1.tk a b).heard < (w1.tk a b).said.length
    · right
      have t1k0 := t1.k0; have t1kh := t1.kh
      obtain ⟨z, hz, z1, z2, z3, z4⟩ := hres (w1.tk a b).heard.toNat (by show (w1.tk a b).known ≤ _; omega) (by show _ < (w1.tk a b).said.length; omega)
      have hp : Pend ((w1.tk a b).heard + 1) (w1.tk a b).heard a b (timeGo { w1 with tick := nx } (grid w1.st)) :=
        .inr (.inr (.inl ⟨by rw [j1.2.1]; exact Int.le_refl _, z, hz, z1, z2, z3, by rw [z4]; omega⟩))
      have := (hp.dls (Int.le_refl _) d2).done e3
      omega
    · left
      have t1k0 := t1.k0; have t1hs := t1.hs
      obtain ⟨z, hz, z1, z2, z3, z4⟩ := hres (w1.tk a b).known.toNat (by show (w1.tk a b).known ≤ _; omega) (by show _ < (w1.tk a b).said.length; omega)
      have hp : Pend (w1.tk a b).said.length (w1.tk a b).heard a b (timeGo { w1 with tick := nx } (grid w1.st)) :=
        .inr (.inr (.inr ⟨by rw [j1.2.1]; show _ ≤ (w1.tk a b).heard; omega, z, hz, z1, z2, z3⟩))
      have := (hp.dls (by omega) d2).done e3
      rw [s1] at this
      exact this
  · right; omega
end Wl

namespace Go.AM
open Go.Proofs Wl
set_option maxRecDepth 10000
set_option maxHeartbeats 4000000
theorem szs_append (w : Wd) : ∀ (a b : List (Nat × Nat)), szs w (a ++ b) = szs w a + szs w b
  | [], b => by simp [szs]
  | q :: r, b => by simp [szs, szs_append w r b]; omega
theorem sz_60 {w : Wd} (hw : Wok w) (q : Nat × Nat) : sz w q ≤ 60 := by
  unfold sz saidW; split
  · exact (hw.tk _ _).sl
  · simp
theorem szs_60 {w : Wd} (hw : Wok w) : ∀ l : List (Nat × Nat), szs w l ≤ 60 * l.length
  | [] => by simp [szs]
  | q :: r => by have := szs_60 hw r; have := sz_60 hw q; simp [szs]; omega
theorem rowP_len (S a b : Nat) : (rowP S a b).length = a * S + b := by
  simp only [rowP, List.length_append, List.length_map, List.length_range]
  congr 1
  induction a with
  | zero => simp
  | succ n ih => rw [List.range_succ, List.flatMap_append, List.length_append, ih, Nat.succ_mul]; simp
theorem words_at {w : Wd} {p b : Nat} {h0 h : AHeap} {n : Nat} (A : At w p b h0 h n) (hw : Wok w) (n1 : Nat) : APureAt Try.prog 22 [.ptr p 0, iv .i64 w.st] h n1 (iv .i64 (szs w (grid w.st))) := by
  refine ACalls.pure (ACalls.entry (by kernel_rfl) fun hb _ => calls_of Try.func22 rfl (by kernel_rfl) (by simp [Try.ntmps22]) ?_)
  have s1 := hw.s1
  obtain ⟨S, hS⟩ : ∃ S, Hide (S = w.st) := ⟨_, rfl⟩
  have hbd : Hide (∀ a b : Nat, a ≤ S → b ≤ S → szs w (rowP S a b) ≤ 10000) := fun a b ha hb2 => by
    have h1 := szs_60 hw (rowP S a b)
    rw [rowP_len] at h1
    have h2 : S ≤ 10 := by rw [hS.out]; exact s1
    have h3 : a * S ≤ 10 * 10 := Nat.mul_le_mul (by omega) h2
    omega
  rw [← hS.out] at s1 ⊢
  replace A : Hide _ := A
  replace hw : Hide _ := hw
  repeat' (first
    | (refine ac_seq_h fun K hK => ?_)
    | (refine ac_region_h fun K hK => ?_; simp (disch := omega) [go_sem, *, Try.ntmps22])
    | (refine ac_draw_h mixed (by kernel_rfl) fun K hK => ?_; simp (disch := omega) [go_sem, *, wrap64_id, upd_ne, mk3_true, flatten_replicate_one, stepK_if, ilt_true, ilt_false, ile_true, ile_false, Try.ntmps22])
    | (apply Hide.out hK; clear hK K; try with_reducible dsimp only [thenA])
    | (apply Hide.out ht; clear ht hf Kt Kf)
    | (apply Hide.out hf; clear ht hf Kt Kf)
    | (clear hK K; apply Hide.out hK; clear hK K; try with_reducible dsimp only [thenA])
    | (clear hK K; clear hK K; apply Hide.out hK; clear hK K; try with_reducible dsimp only [thenA])
    | (refine ac_block ?_)
    | (refine ac_skip ?_; simp only [thenA, blockA])
    | (refine ac_exit ?_; simp only [thenA, blockA, if_true, if_false, Nat.reduceEqDiff])
    | (with_reducible show nextK _ _ _ _ _ _ _; simp (disch := omega) [go_sem, *, wrap64_id, upd_ne, mk3_true, flatten_replicate_one, stepK_if, ilt_true, ilt_false, ile_true, ile_false, Try.ntmps22])
    | (refine wantK_split (fun hc => ?_) (fun hc => ?_) <;> (try simp only [Bool.not_eq_true', Bool.not_eq_false', Bool.not_eq_eq_eq_not, Bool.not_true, Bool.not_false, decide_eq_true_eq, decide_eq_false_iff_not, Int.not_lt, Int.not_le] at hc) <;> (try (exfalso; omega)) <;> (try simp (disch := omega) [go_sem, *, wrap64_id, upd_ne, mk3_true, flatten_replicate_one, stepK_if, ilt_true, ilt_false, ile_true, ile_false, Try.ntmps22]))
    | (refine ac_cond_h fun Kt Kf ht hf => ?_; simp (disch := omega) [go_sem, *, wrap64_id, upd_ne, mk3_true, flatten_replicate_one, stepK_if, ilt_true, ilt_false, ile_true, ile_false, Try.ntmps22]; try (refine ⟨fun hc => ?_, fun hc => ?_⟩ <;> try (exfalso; omega))))
  refine ac_loop_wk (fun s' => ∃ (a n' : Nat), n1 ≤ n' ∧ a ≤ S ∧ s' = ⟨26, [(0, .ptr p 0), (1, iv .i64 S), (5, iv .i64 (szs w (rowP S a 0))), (6, iv .i64 a)], h, n'⟩) (fun z => S - (intAt z 6).toNat) ?_ ?_
  · refine loop_start (by simp [go_sem, rowP_zero, szs]) (Sub.refl _) ⟨0, _, ?_, Nat.zero_le _, rfl⟩
    omega
  rintro s' ⟨a, n', hn', ha, rfl⟩
  by_cases hlta : a < S
  · skip
    repeat' (first
      | (refine ac_seq_h fun K hK => ?_)
      | (refine ac_region_h fun K hK => ?_; simp (disch := omega) [go_sem, *, ilt_true])
      | (refine ac_draw_h mixed (by kernel_rfl) fun K hK => ?_; simp (disch := omega) [go_sem, *, wrap64_id, upd_ne, mk3_true, flatten_replicate_one, stepK_if, ilt_true, ilt_false, ile_true, ile_false, Try.ntmps22])
      | (apply Hide.out hK; clear hK K; try with_reducible dsimp only [thenA])
      | (apply Hide.out ht; clear ht hf Kt Kf)
      | (apply Hide.out hf; clear ht hf Kt Kf)
      | (clear hK K; apply Hide.out hK; clear hK K; try with_reducible dsimp only [thenA])
      | (clear hK K; clear hK K; apply Hide.out hK; clear hK K; try with_reducible dsimp only [thenA])
      | (refine ac_block ?_)
      | (refine ac_skip ?_; simp only [thenA])
      | (refine ac_exit ?_; simp only [thenA, blockA, if_true, if_false, Nat.reduceEqDiff])
      | (with_reducible show nextK _ _ _ _ _ _ _; simp (disch := omega) [go_sem, *, wrap64_id, upd_ne, mk3_true, flatten_replicate_one, stepK_if, ilt_true, ilt_false, ile_true, ile_false, Try.ntmps22])
      | (refine wantK_split (fun hc => ?_) (fun hc => ?_) <;> (try simp only [Bool.not_eq_true', Bool.not_eq_false', Bool.not_eq_eq_eq_not, Bool.not_true, Bool.not_false, decide_eq_true_eq, decide_eq_false_iff_not, Int.not_lt, Int.not_le] at hc) <;> (try (exfalso; omega)) <;> (try simp (disch := omega) [go_sem, *, wrap64_id, upd_ne, mk3_true, flatten_replicate_one, stepK_if, ilt_true, ilt_false, ile_true, ile_false, Try.ntmps22]))
      | (refine ac_cond_h fun Kt Kf ht hf => ?_; simp (disch := omega) [go_sem, *]; try (refine ⟨fun hc => ?_, fun hc => ?_⟩ <;> try (exfalso; omega))))
    refine ac_loop_wk (fun s' => ∃ (b n' : Nat), n1 ≤ n' ∧ b ≤ S ∧ s' = ⟨26, [(0, .ptr p 0), (1, iv .i64 S), (5, iv .i64 (szs w (rowP S a b))), (6, iv .i64 a), (7, iv .i64 b)], h, n'⟩) (fun z => S - (intAt z 7).toNat) ?_ ?_
    · refine loop_start (by simp [go_sem]) (Sub.refl _) ⟨0, _, ?_, Nat.zero_le _, rfl⟩
      omega
    rintro s' ⟨b, n2, hn2, hb2, rfl⟩
    by_cases hltb : b < S
    · obtain ⟨X, hX1, hX2⟩ := At.said A.out hw.out (a : Int) (b : Int)
      have hz : szs w (rowP S a (b + 1)) = szs w (rowP S a b) + (saidW w a b).length := by rw [rowP_next, szs_append]; simp [szs, sz]
      have hb1 := hbd.out a b (by omega) (by omega)
      have hb3 := hbd.out a (b + 1) (by omega) (by omega)
      obtain ⟨x1, x2, x3, rfl, hx⟩ := hX1
      generalize saidW w a b = X at *
      generalize szs w (rowP S a b) = Z at *
      replace hX2 : Hide _ := hX2
      replace hx : Hide _ := hx
      replace hz : Hide _ := hz
      have hb4 : Z + X.length ≤ 10000 := by have := hz.out; omega
      repeat' (first
        | (refine ac_seq_h fun K hK => ?_)
        | (refine ac_region_h fun K hK => ?_; simp (disch := omega) [go_sem, *, ilt_true])
        | (refine ac_draw_h mixed (by kernel_rfl) fun K hK => ?_; simp (disch := omega) [go_sem, *, wrap64_id, upd_ne, mk3_true, flatten_replicate_one, stepK_if, ilt_true, ilt_false, ile_true, ile_false, Try.ntmps22])
        | (apply Hide.out hK; clear hK K; try with_reducible dsimp only [thenA])
        | (apply Hide.out ht; clear ht hf Kt Kf)
        | (apply Hide.out hf; clear ht hf Kt Kf)
        | (clear hK K; apply Hide.out hK; clear hK K; try with_reducible dsimp only [thenA])
        | (clear hK K; clear hK K; apply Hide.out hK; clear hK K; try with_reducible dsimp only [thenA])
        | (refine ac_block ?_)
        | (refine ac_skip ?_; simp only [thenA])
        | (refine ac_exit ?_; simp only [thenA, blockA, if_true, if_false, Nat.reduceEqDiff])
        | (with_reducible show nextK _ _ _ _ _ _ _; simp (disch := omega) [go_sem, *, wrap64_id, upd_ne, mk3_true, flatten_replicate_one, stepK_if, ilt_true, ilt_false, ile_true, ile_false, Try.ntmps22])
        | (refine wantK_split (fun hc => ?_) (fun hc => ?_) <;> (try simp only [Bool.not_eq_true', Bool.not_eq_false', Bool.not_eq_eq_eq_not, Bool.not_true, Bool.not_false, decide_eq_true_eq, decide_eq_false_iff_not, Int.not_lt, Int.not_le] at hc) <;> (try (exfalso; omega)) <;> (try simp (disch := omega) [go_sem, *, wrap64_id, upd_ne, mk3_true, flatten_replicate_one, stepK_if, ilt_true, ilt_false, ile_true, ile_false, Try.ntmps22]))
        | (refine ac_cond_h fun Kt Kf ht hf => ?_; simp (disch := omega) [go_sem, *]; try (refine ⟨fun hc => ?_, fun hc => ?_⟩ <;> try (exfalso; omega))))
      refine APureAt.call (hX2.out _) ?_
      repeat' (first
        | (refine ac_seq_h fun K hK => ?_)
        | (refine ac_region_h fun K hK => ?_; simp (disch := omega) [go_sem, *, wrap64_id])
        | (refine ac_draw_h mixed (by kernel_rfl) fun K hK => ?_; simp (disch := omega) [go_sem, *, wrap64_id, upd_ne, mk3_true, flatten_replicate_one, stepK_if, ilt_true, ilt_false, ile_true, ile_false, Try.ntmps22])
        | (apply Hide.out hK; clear hK K; try with_reducible dsimp only [thenA])
        | (apply Hide.out ht; clear ht hf Kt Kf)
        | (apply Hide.out hf; clear ht hf Kt Kf)
        | (clear hK K; apply Hide.out hK; clear hK K; try with_reducible dsimp only [thenA])
        | (clear hK K; clear hK K; apply Hide.out hK; clear hK K; try with_reducible dsimp only [thenA])
        | (refine ac_block ?_)
        | (refine ac_skip ?_; simp only [thenA, blockA])
        | (refine ac_exit ?_; simp only [thenA, blockA, if_true, if_false, Nat.reduceEqDiff])
        | (with_reducible show nextK _ _ _ _ _ _ _; simp (disch := omega) [go_sem, *, wrap64_id])
        | (refine wantK_split (fun hc => ?_) (fun hc => ?_) <;> (try simp only [Bool.not_eq_true', Bool.not_eq_false', Bool.not_eq_eq_eq_not, Bool.not_true, Bool.not_false, decide_eq_true_eq, decide_eq_false_iff_not, Int.not_lt, Int.not_le] at hc) <;> (try (exfalso; omega)) <;> (try simp (disch := omega) [go_sem, *, wrap64_id, upd_ne, mk3_true, flatten_replicate_one, stepK_if, ilt_true, ilt_false, ile_true, ile_false, Try.ntmps22]))
        | (refine ac_cond_h fun Kt Kf ht hf => ?_; simp (disch := omega) [go_sem, *, wrap64_id, upd_ne, mk3_true, flatten_replicate_one, stepK_if, ilt_true, ilt_false, ile_true, ile_false, Try.ntmps22]; try (refine ⟨fun hc => ?_, fun hc => ?_⟩ <;> try (exfalso; omega))))
      refine round_end (by rw [hz.out]; simp [go_sem]) (Sub.refl _) ⟨b + 1, _, ?_, by omega, rfl⟩ (by simp [intAt, go_sem]; omega)
      omega
    · have hbe : Hide (b = S) := by show b = S; omega
      repeat' (first
        | (refine ac_seq_h fun K hK => ?_)
        | (refine ac_region_h fun K hK => ?_; simp (disch := omega) [go_sem, *, wrap64_id, ilt_false])
        | (refine ac_draw_h mixed (by kernel_rfl) fun K hK => ?_; simp (disch := omega) [go_sem, *, wrap64_id, upd_ne, mk3_true, flatten_replicate_one, stepK_if, ilt_true, ilt_false, ile_true, ile_false, Try.ntmps22])
        | (apply Hide.out hK; clear hK K; try with_reducible dsimp only [thenA])
        | (apply Hide.out ht; clear ht hf Kt Kf)
        | (apply Hide.out hf; clear ht hf Kt Kf)
        | (clear hK K; apply Hide.out hK; clear hK K; try with_reducible dsimp only [thenA])
        | (clear hK K; clear hK K; apply Hide.out hK; clear hK K; try with_reducible dsimp only [thenA])
        | (refine ac_block ?_)
        | (refine ac_skip ?_; simp only [thenA, blockA])
        | (refine ac_exit ?_; simp only [thenA, blockA, if_true, if_false, Nat.reduceEqDiff])
        | (with_reducible show nextK _ _ _ _ _ _ _; simp (disch := omega) [go_sem, *, wrap64_id, upd_ne, mk3_true, flatten_replicate_one, stepK_if, ilt_true, ilt_false, ile_true, ile_false, Try.ntmps22])
        | (refine wantK_split (fun hc => ?_) (fun hc => ?_) <;> (try simp only [Bool.not_eq_true', Bool.not_eq_false', Bool.not_eq_eq_eq_not, Bool.not_true, Bool.not_false, decide_eq_true_eq, decide_eq_false_iff_not, Int.not_lt, Int.not_le] at hc) <;> (try (exfalso; omega)) <;> (try simp (disch := omega) [go_sem, *, wrap64_id, upd_ne, mk3_true, flatten_replicate_one, stepK_if, ilt_true, ilt_false, ile_true, ile_false, Try.ntmps22]))
        | (refine ac_cond_h fun Kt Kf ht hf => ?_; simp (disch := omega) [go_sem, *]; try (refine ⟨fun hc => ?_, fun hc => ?_⟩ <;> try (exfalso; omega))))
      refine round_end (by rw [rowP_row, ← hbe.out]; simp [go_sem]) (Sub.refl _) ⟨a + 1, _, ?_, by omega, rfl⟩ (by simp [intAt, go_sem]; omega)
      omega
  · have hae : Hide (szs w (rowP S a 0) = szs w (grid S)) := by
      have : a = S := by omega
      rw [this, rowP_all]; rfl
    repeat' (first
      | (refine ac_seq_h fun K hK => ?_)
      | (refine ac_region_h fun K hK => ?_; simp (disch := omega) [go_sem, *, ilt_false])
      | (refine ac_draw_h mixed (by kernel_rfl) fun K hK => ?_; simp (disch := omega) [go_sem, *, wrap64_id, upd_ne, mk3_true, flatten_replicate_one, stepK_if, ilt_true, ilt_false, ile_true, ile_false, Try.ntmps22])
      | (apply Hide.out hK; clear hK K; try with_reducible dsimp only [thenA])
      | (apply Hide.out ht; clear ht hf Kt Kf)
      | (apply Hide.out hf; clear ht hf Kt Kf)
      | (clear hK K; apply Hide.out hK; clear hK K; try with_reducible dsimp only [thenA])
      | (clear hK K; clear hK K; apply Hide.out hK; clear hK K; try with_reducible dsimp only [thenA])
      | (refine ac_block ?_)
      | (refine ac_skip ?_; simp only [thenA, blockA])
      | (refine ac_exit ?_; simp only [thenA, blockA, if_true])
      | (with_reducible show nextK _ _ _ _ _ _ _; simp (disch := omega) [go_sem, *, wrap64_id, upd_ne, mk3_true, flatten_replicate_one, stepK_if, ilt_true, ilt_false, ile_true, ile_false, Try.ntmps22])
      | (refine wantK_split (fun hc => ?_) (fun hc => ?_) <;> (try simp only [Bool.not_eq_true', Bool.not_eq_false', Bool.not_eq_eq_eq_not, Bool.not_true, Bool.not_false, decide_eq_true_eq, decide_eq_false_iff_not, Int.not_lt, Int.not_le] at hc) <;> (try (exfalso; omega)) <;> (try simp (disch := omega) [go_sem, *, wrap64_id, upd_ne, mk3_true, flatten_replicate_one, stepK_if, ilt_true, ilt_false, ile_true, ile_false, Try.ntmps22]))
      | (refine ac_cond_h fun Kt Kf ht hf => ?_; simp (disch := omega) [go_sem, *]; try (refine ⟨fun hc => ?_, fun hc => ?_⟩ <;> try (exfalso; omega))))
    refine ac_ret ?_
    refine ⟨by simp, _, (by simp (disch := omega) [go_sem] <;> rfl), ?_⟩
    refine ret_id ⟨fun j hj => rfl, by simp [go_sem, below], by simp [go_sem, hae.out], rfl, rfl⟩
def lat (w : Wd) : List (Nat × Nat) → Int → Int
  | [], m => m
  | q :: r, m => lat w r (if (dueW w q.1 q.2).2 = true then max m (dueW w q.1 q.2).1 else m)
theorem lat_append (w : Wd) : ∀ (a b : List (Nat × Nat)) (m : Int), lat w (a ++ b) m = lat w b (lat w a m)
  | [], _, _ => rfl
  | q :: r, b, m => by rw [List.cons_append, lat, lat, lat_append]
theorem lat_ge (w : Wd) : ∀ (l : List (Nat × Nat)) (m : Int), m ≤ lat w l m ∧ ∀ q ∈ l, (dueW w q.1 q.2).2 = true → (dueW w q.1 q.2).1 ≤ lat w l m
  | [], m => ⟨Int.le_refl _, fun q h => by cases h⟩
  | q :: r, m => by
    obtain ⟨i1, i2⟩ := lat_ge w r (if (dueW w q.1 q.2).2 = true then max m (dueW w q.1 q.2).1 else m)
    rw [lat]
    refine ⟨Int.le_trans ?_ i1, fun z hz hd => ?_⟩
    · split <;> omega
    · rcases List.mem_cons.1 hz with rfl | hz
      · refine Int.le_trans ?_ i1
        rw [if_pos hd]; omega
      · exact i2 z hz hd
theorem due_bd {w : Wd} (hw : Wok w) (a b : Int) : 0 ≤ (dueW w a b).1 ∧ (dueW w a b).1 ≤ 1100000 := by
  have := (hw.tk a.toNat b.toNat).d0; have := (hw.tk a.toNat b.toNat).d1
  unfold dueW
  split
  · split <;> simp only <;> omega
  · simp
theorem lat_le {w : Wd} (hw : Wok w) : ∀ (l : List (Nat × Nat)) (m : Int), m ≤ 1100000 → lat w l m ≤ 1100000
  | [], m, h => h
  | q :: r, m, h => by
    rw [lat]
    refine lat_le hw r _ ?_
    have := due_bd hw q.1 q.2
    split <;> omega
theorem latest_at {w : Wd} {p b : Nat} {h0 h : AHeap} {n : Nat} (A : At w p b h0 h n) (hw : Wok w) (n1 : Nat) : APureAt Try.prog 23 [.ptr p 0, iv .i64 w.st] h n1 (iv .i64 (lat w (grid w.st) w.tick)) := by
  refine ACalls.pure (ACalls.entry (by kernel_rfl) fun hb _ => calls_of Try.func23 rfl (by kernel_rfl) (by simp [Try.ntmps23]) ?_)
  have s1 := hw.s1
  have t1 := hw.t1
  have t0 := hw.t0
  have c42 := fun k => At.tick A k
  obtain ⟨S, hS⟩ : ∃ S, Hide (S = w.st) := ⟨_, rfl⟩
  have hbd : Hide (∀ a b : Nat, 0 ≤ lat w (rowP S a b) w.tick ∧ lat w (rowP S a b) w.tick ≤ 1100000) := fun a b => ⟨Int.le_trans t0 (lat_ge w _ _).1, lat_le hw _ _ (by omega)⟩
  rw [← hS.out] at s1 ⊢
  replace A : Hide _ := A
  replace hw : Hide _ := hw
  repeat' (first
    | (refine ac_seq_h fun K hK => ?_)
    | (refine ac_region_h fun K hK => ?_; simp (disch := omega) [go_sem, *, Try.ntmps23 ])
    | (refine ac_draw_h mixed (by kernel_rfl) fun K hK => ?_; simp (disch := omega) [go_sem, *, wrap64_id, upd_ne, mk3_true, flatten_replicate_one, stepK_if, ilt_true, ilt_false, ile_true, ile_false, Try.ntmps23 ])
    | (apply Hide.out hK; clear hK K; try with_reducible dsimp only [thenA])
    | (apply Hide.out ht; clear ht hf Kt Kf)
    | (apply Hide.out hf; clear ht hf Kt Kf)
    | (clear hK K; apply Hide.out hK; clear hK K; try with_reducible dsimp only [thenA])
    | (clear hK K; clear hK K; apply Hide.out hK; clear hK K; try with_reducible dsimp only [thenA])
    | (with_reducible refine APureAt.call (c42 _) ?_; try simp (disch := omega) [go_sem, * ])
    | (refine ac_block ?_)
    | (refine ac_skip ?_; simp only [thenA, blockA])
    | (refine ac_exit ?_; simp only [thenA, blockA, if_true, if_false, Nat.reduceEqDiff])
    | (with_reducible show nextK _ _ _ _ _ _ _; simp (disch := omega) [go_sem, *, wrap64_id, upd_ne, mk3_true, flatten_replicate_one, stepK_if, ilt_true, ilt_false, ile_true, ile_false, Try.ntmps23 ])
    | (refine wantK_split (fun hc => ?_) (fun hc => ?_) <;> (try simp only [Bool.not_eq_true', Bool.not_eq_false', Bool.not_eq_eq_eq_not, Bool.not_true, Bool.not_false, decide_eq_true_eq, decide_eq_false_iff_not, Int.not_lt, Int.not_le] at hc) <;> (try (exfalso; omega)) <;> (try simp (disch := omega) [go_sem, *, wrap64_id, upd_ne, mk3_true, flatten_replicate_one, stepK_if, ilt_true, ilt_false, ile_true, ile_false, Try.ntmps23 ]))
    | (refine ac_cond_h fun Kt Kf ht hf => ?_; simp (disch := omega) [go_sem, *, wrap64_id, upd_ne, mk3_true, flatten_replicate_one, stepK_if, ilt_true, ilt_false, ile_true, ile_false, Try.ntmps23 ]; try (refine ⟨fun hc => ?_, fun hc => ?_⟩ <;> try (exfalso; omega))))
  refine ac_loop_wk (fun s' => ∃ (a n' : Nat), n1 ≤ n' ∧ a ≤ S ∧ s' = ⟨34, [(0, .ptr p 0), (1, iv .i64 S), (5, iv .i64 (lat w (rowP S a 0) w.tick)), (6, iv .i64 a)], h, n'⟩) (fun z => S - (intAt z 6).toNat) ?_ ?_
  · refine loop_start (by simp [go_sem, rowP_zero, lat]) (Sub.refl _) ⟨0, _, ?_, Nat.zero_le _, rfl⟩
    omega
  rintro s' ⟨a, n', hn', ha, rfl⟩
  by_cases hlta : a < S
  · skip
    repeat' (first
      | (refine ac_seq_h fun K hK => ?_)
      | (refine ac_region_h fun K hK => ?_; simp (disch := omega) [go_sem, *, ilt_true])
      | (refine ac_draw_h mixed (by kernel_rfl) fun K hK => ?_; simp (disch := omega) [go_sem, *, wrap64_id, upd_ne, mk3_true, flatten_replicate_one, stepK_if, ilt_true, ilt_false, ile_true, ile_false, Try.ntmps23])
      | (apply Hide.out hK; clear hK K; try with_reducible dsimp only [thenA])
      | (apply Hide.out ht; clear ht hf Kt Kf)
      | (apply Hide.out hf; clear ht hf Kt Kf)
      | (clear hK K; apply Hide.out hK; clear hK K; try with_reducible dsimp only [thenA])
      | (clear hK K; clear hK K; apply Hide.out hK; clear hK K; try with_reducible dsimp only [thenA])
      | (refine ac_block ?_)
      | (refine ac_skip ?_; simp only [thenA])
      | (refine ac_exit ?_; simp only [thenA, blockA, if_true, if_false, Nat.reduceEqDiff])
      | (with_reducible show nextK _ _ _ _ _ _ _; simp (disch := omega) [go_sem, *, wrap64_id, upd_ne, mk3_true, flatten_replicate_one, stepK_if, ilt_true, ilt_false, ile_true, ile_false, Try.ntmps23])
      | (refine wantK_split (fun hc => ?_) (fun hc => ?_) <;> (try simp only [Bool.not_eq_true', Bool.not_eq_false', Bool.not_eq_eq_eq_not, Bool.not_true, Bool.not_false, decide_eq_true_eq, decide_eq_false_iff_not, Int.not_lt, Int.not_le] at hc) <;> (try (exfalso; omega)) <;> (try simp (disch := omega) [go_sem, *, wrap64_id, upd_ne, mk3_true, flatten_replicate_one, stepK_if, ilt_true, ilt_false, ile_true, ile_false, Try.ntmps23]))
      | (refine ac_cond_h fun Kt Kf ht hf => ?_; simp (disch := omega) [go_sem, *]; try (refine ⟨fun hc => ?_, fun hc => ?_⟩ <;> try (exfalso; omega))))
    refine ac_loop_wk (fun s' => ∃ (b n' : Nat), n1 ≤ n' ∧ b ≤ S ∧ s' = ⟨34, [(0, .ptr p 0), (1, iv .i64 S), (5, iv .i64 (lat w (rowP S a b) w.tick)), (6, iv .i64 a), (7, iv .i64 b)], h, n'⟩) (fun z => S - (intAt z 7).toNat) ?_ ?_
    · refine loop_start (by simp [go_sem]) (Sub.refl _) ⟨0, _, ?_, Nat.zero_le _, rfl⟩
      omega
    rintro s' ⟨b, n2, hn2, hb2, rfl⟩
    by_cases hltb : b < S
    · have hdue := fun k => At.due A.out hw.out (a : Int) (b : Int) k
      have hz : lat w (rowP S a (b + 1)) w.tick = if (dueW w a b).2 = true then max (lat w (rowP S a b) w.tick) (dueW w a b).1 else lat w (rowP S a b) w.tick := by rw [rowP_next, lat_append]; rfl
      have hb1 := hbd.out a b
      have hb3 := due_bd hw.out (a : Int) (b : Int)
      generalize dueW w a b = D at *
      obtain ⟨d, is⟩ := D
      generalize lat w (rowP S a b) w.tick = Z at *
      replace hdue : Hide _ := hdue
      replace hz : Hide _ := hz
      cases is with
      | true =>
        simp only [if_true] at hz
        repeat' (first
          | (refine ac_seq_h fun K hK => ?_)
          | (refine ac_region_h fun K hK => ?_; simp (disch := omega) [go_sem, *, ilt_true])
          | (refine ac_draw_h mixed (by kernel_rfl) fun K hK => ?_; simp (disch := omega) [go_sem, *, wrap64_id, upd_ne, mk3_true, flatten_replicate_one, stepK_if, ilt_true, ilt_false, ile_true, ile_false, Try.ntmps23])
          | (apply Hide.out hK; clear hK K; try with_reducible dsimp only [thenA])
          | (apply Hide.out ht; clear ht hf Kt Kf)
          | (apply Hide.out hf; clear ht hf Kt Kf)
          | (clear hK K; apply Hide.out hK; clear hK K; try with_reducible dsimp only [thenA])
          | (clear hK K; clear hK K; apply Hide.out hK; clear hK K; try with_reducible dsimp only [thenA])
          | (refine ac_block ?_)
          | (refine ac_skip ?_; simp only [thenA])
          | (refine ac_exit ?_; simp only [thenA, blockA, if_true, if_false, Nat.reduceEqDiff])
          | (with_reducible show nextK _ _ _ _ _ _ _; simp (disch := omega) [go_sem, *, wrap64_id, upd_ne, mk3_true, flatten_replicate_one, stepK_if, ilt_true, ilt_false, ile_true, ile_false, Try.ntmps23])
          | (refine wantK_split (fun hc => ?_) (fun hc => ?_) <;> (try simp only [Bool.not_eq_true', Bool.not_eq_false', Bool.not_eq_eq_eq_not, Bool.not_true, Bool.not_false, decide_eq_true_eq, decide_eq_false_iff_not, Int.not_lt, Int.not_le] at hc) <;> (try (exfalso; omega)) <;> (try simp (disch := omega) [go_sem, *, wrap64_id, upd_ne, mk3_true, flatten_replicate_one, stepK_if, ilt_true, ilt_false, ile_true, ile_false, Try.ntmps23]))
          | (refine ac_cond_h fun Kt Kf ht hf => ?_; simp (disch := omega) [go_sem, *]; try (refine ⟨fun hc => ?_, fun hc => ?_⟩ <;> try (exfalso; omega))))
        refine APureAt.call (hdue.out _) ?_
        repeat' (first
          | (refine ac_seq_h fun K hK => ?_)
          | (refine ac_region_h fun K hK => ?_; simp (disch := omega) [go_sem, *, wrap64_id])
          | (refine ac_draw_h mixed (by kernel_rfl) fun K hK => ?_; simp (disch := omega) [go_sem, *, wrap64_id, upd_ne, mk3_true, flatten_replicate_one, stepK_if, ilt_true, ilt_false, ile_true, ile_false, Try.ntmps23])
          | (apply Hide.out hK; clear hK K; try with_reducible dsimp only [thenA])
          | (apply Hide.out ht; clear ht hf Kt Kf)
          | (apply Hide.out hf; clear ht hf Kt Kf)
          | (clear hK K; apply Hide.out hK; clear hK K; try with_reducible dsimp only [thenA])
          | (clear hK K; clear hK K; apply Hide.out hK; clear hK K; try with_reducible dsimp only [thenA])
          | (refine ac_block ?_)
          | (refine ac_skip ?_; simp only [thenA, blockA])
          | (refine ac_exit ?_; simp only [thenA, blockA, if_true, if_false, Nat.reduceEqDiff])
          | (with_reducible show nextK _ _ _ _ _ _ _; simp (disch := omega) [go_sem, *])
          | (refine wantK_split (fun hc => ?_) (fun hc => ?_) <;> (try simp only [Bool.not_eq_true', Bool.not_eq_false', Bool.not_eq_eq_eq_not, Bool.not_true, Bool.not_false, decide_eq_true_eq, decide_eq_false_iff_not, Int.not_lt, Int.not_le] at hc) <;> (try (exfalso; omega)) <;> (try simp (disch := omega) [go_sem, *, wrap64_id, upd_ne, mk3_true, flatten_replicate_one, stepK_if, ilt_true, ilt_false, ile_true, ile_false, Try.ntmps23]))
          | (refine ac_cond_h fun Kt Kf ht hf => ?_; simp (disch := omega) [go_sem, *]; try (refine ⟨fun hc => ?_, fun hc => ?_⟩ <;> try (exfalso; omega))))
        refine round_end (by rw [hz.out]; simp [go_sem]) (Sub.refl _) ⟨b + 1, _, ?_, by omega, rfl⟩ (by simp [intAt, go_sem]; omega)
        omega
      | false =>
        simp only [Bool.false_eq_true, if_false] at hz
        repeat' (first
          | (refine ac_seq_h fun K hK => ?_)
          | (refine ac_region_h fun K hK => ?_; simp (disch := omega) [go_sem, *, ilt_true])
          | (refine ac_draw_h mixed (by kernel_rfl) fun K hK => ?_; simp (disch := omega) [go_sem, *, wrap64_id, upd_ne, mk3_true, flatten_replicate_one, stepK_if, ilt_true, ilt_false, ile_true, ile_false, Try.ntmps23])
          | (apply Hide.out hK; clear hK K; try with_reducible dsimp only [thenA])
          | (apply Hide.out ht; clear ht hf Kt Kf)
          | (apply Hide.out hf; clear ht hf Kt Kf)
          | (clear hK K; apply Hide.out hK; clear hK K; try with_reducible dsimp only [thenA])
          | (clear hK K; clear hK K; apply Hide.out hK; clear hK K; try with_reducible dsimp only [thenA])
          | (refine ac_block ?_)
          | (refine ac_skip ?_; simp only [thenA])
          | (refine ac_exit ?_; simp only [thenA, blockA, if_true, if_false, Nat.reduceEqDiff])
          | (with_reducible show nextK _ _ _ _ _ _ _; simp (disch := omega) [go_sem, *, wrap64_id, upd_ne, mk3_true, flatten_replicate_one, stepK_if, ilt_true, ilt_false, ile_true, ile_false, Try.ntmps23])
          | (refine wantK_split (fun hc => ?_) (fun hc => ?_) <;> (try simp only [Bool.not_eq_true', Bool.not_eq_false', Bool.not_eq_eq_eq_not, Bool.not_true, Bool.not_false, decide_eq_true_eq, decide_eq_false_iff_not, Int.not_lt, Int.not_le] at hc) <;> (try (exfalso; omega)) <;> (try simp (disch := omega) [go_sem, *, wrap64_id, upd_ne, mk3_true, flatten_replicate_one, stepK_if, ilt_true, ilt_false, ile_true, ile_false, Try.ntmps23]))
          | (refine ac_cond_h fun Kt Kf ht hf => ?_; simp (disch := omega) [go_sem, *]; try (refine ⟨fun hc => ?_, fun hc => ?_⟩ <;> try (exfalso; omega))))
        refine APureAt.call (hdue.out _) ?_
        repeat' (first
          | (refine ac_seq_h fun K hK => ?_)
          | (refine ac_region_h fun K hK => ?_; simp (disch := omega) [go_sem, *, wrap64_id])
          | (refine ac_draw_h mixed (by kernel_rfl) fun K hK => ?_; simp (disch := omega) [go_sem, *, wrap64_id, upd_ne, mk3_true, flatten_replicate_one, stepK_if, ilt_true, ilt_false, ile_true, ile_false, Try.ntmps23])
          | (apply Hide.out hK; clear hK K; try with_reducible dsimp only [thenA])
          | (apply Hide.out ht; clear ht hf Kt Kf)
          | (apply Hide.out hf; clear ht hf Kt Kf)
          | (clear hK K; apply Hide.out hK; clear hK K; try with_reducible dsimp only [thenA])
          | (clear hK K; clear hK K; apply Hide.out hK; clear hK K; try with_reducible dsimp only [thenA])
          | (refine ac_block ?_)
          | (refine ac_skip ?_; simp only [thenA, blockA])
          | (refine ac_exit ?_; simp only [thenA, blockA, if_true, if_false, Nat.reduceEqDiff])
          | (with_reducible show nextK _ _ _ _ _ _ _; simp (disch := omega) [go_sem, *])
          | (refine wantK_split (fun hc => ?_) (fun hc => ?_) <;> (try simp only [Bool.not_eq_true', Bool.not_eq_false', Bool.not_eq_eq_eq_not, Bool.not_true, Bool.not_false, decide_eq_true_eq, decide_eq_false_iff_not, Int.not_lt, Int.not_le] at hc) <;> (try (exfalso; omega)) <;> (try simp (disch := omega) [go_sem, *, wrap64_id, upd_ne, mk3_true, flatten_replicate_one, stepK_if, ilt_true, ilt_false, ile_true, ile_false, Try.ntmps23]))
          | (refine ac_cond_h fun Kt Kf ht hf => ?_; simp (disch := omega) [go_sem, *]; try (refine ⟨fun hc => ?_, fun hc => ?_⟩ <;> try (exfalso; omega))))
        refine round_end (by rw [hz.out]; simp [go_sem]) (Sub.refl _) ⟨b + 1, _, ?_, by omega, rfl⟩ (by simp [intAt, go_sem]; omega)
        omega
    · have hbe : Hide (b = S) := by show b = S; omega
      repeat' (first
        | (refine ac_seq_h fun K hK => ?_)
        | (refine ac_region_h fun K hK => ?_; simp (disch := omega) [go_sem, *, wrap64_id, ilt_false])
        | (refine ac_draw_h mixed (by kernel_rfl) fun K hK => ?_; simp (disch := omega) [go_sem, *, wrap64_id, upd_ne, mk3_true, flatten_replicate_one, stepK_if, ilt_true, ilt_false, ile_true, ile_false, Try.ntmps23])
        | (apply Hide.out hK; clear hK K; try with_reducible dsimp only [thenA])
        | (apply Hide.out ht; clear ht hf Kt Kf)
        | (apply Hide.out hf; clear ht hf Kt Kf)
        | (clear hK K; apply Hide.out hK; clear hK K; try with_reducible dsimp only [thenA])
        | (clear hK K; clear hK K; apply Hide.out hK; clear hK K; try with_reducible dsimp only [thenA])
        | (refine ac_block ?_)
        | (refine ac_skip ?_; simp only [thenA, blockA])
        | (refine ac_exit ?_; simp only [thenA, blockA, if_true, if_false, Nat.reduceEqDiff])
        | (with_reducible show nextK _ _ _ _ _ _ _; simp (disch := omega) [go_sem, *, wrap64_id, upd_ne, mk3_true, flatten_replicate_one, stepK_if, ilt_true, ilt_false, ile_true, ile_false, Try.ntmps23])
        | (refine wantK_split (fun hc => ?_) (fun hc => ?_) <;> (try simp only [Bool.not_eq_true', Bool.not_eq_false', Bool.not_eq_eq_eq_not, Bool.not_true, Bool.not_false, decide_eq_true_eq, decide_eq_false_iff_not, Int.not_lt, Int.not_le] at hc) <;> (try (exfalso; omega)) <;> (try simp (disch := omega) [go_sem, *, wrap64_id, upd_ne, mk3_true, flatten_replicate_one, stepK_if, ilt_true, ilt_false, ile_true, ile_false, Try.ntmps23]))
        | (refine ac_cond_h fun Kt Kf ht hf => ?_; simp (disch := omega) [go_sem, *]; try (refine ⟨fun hc => ?_, fun hc => ?_⟩ <;> try (exfalso; omega))))
      refine round_end (by rw [rowP_row, ← hbe.out]; simp [go_sem]) (Sub.refl _) ⟨a + 1, _, ?_, by omega, rfl⟩ (by simp [intAt, go_sem]; omega)
      omega
  · have hae : Hide (lat w (rowP S a 0) w.tick = lat w (grid S) w.tick) := by
      have : a = S := by omega
      rw [this, rowP_all]; rfl
    repeat' (first
      | (refine ac_seq_h fun K hK => ?_)
      | (refine ac_region_h fun K hK => ?_; simp (disch := omega) [go_sem, *, ilt_false])
      | (refine ac_draw_h mixed (by kernel_rfl) fun K hK => ?_; simp (disch := omega) [go_sem, *, wrap64_id, upd_ne, mk3_true, flatten_replicate_one, stepK_if, ilt_true, ilt_false, ile_true, ile_false, Try.ntmps23])
      | (apply Hide.out hK; clear hK K; try with_reducible dsimp only [thenA])
      | (apply Hide.out ht; clear ht hf Kt Kf)
      | (apply Hide.out hf; clear ht hf Kt Kf)
      | (clear hK K; apply Hide.out hK; clear hK K; try with_reducible dsimp only [thenA])
      | (clear hK K; clear hK K; apply Hide.out hK; clear hK K; try with_reducible dsimp only [thenA])
      | (refine ac_block ?_)
      | (refine ac_skip ?_; simp only [thenA, blockA])
      | (refine ac_exit ?_; simp only [thenA, blockA, if_true])
      | (with_reducible show nextK _ _ _ _ _ _ _; simp (disch := omega) [go_sem, *, wrap64_id, upd_ne, mk3_true, flatten_replicate_one, stepK_if, ilt_true, ilt_false, ile_true, ile_false, Try.ntmps23])
      | (refine wantK_split (fun hc => ?_) (fun hc => ?_) <;> (try simp only [Bool.not_eq_true', Bool.not_eq_false', Bool.not_eq_eq_eq_not, Bool.not_true, Bool.not_false, decide_eq_true_eq, decide_eq_false_iff_not, Int.not_lt, Int.not_le] at hc) <;> (try (exfalso; omega)) <;> (try simp (disch := omega) [go_sem, *, wrap64_id, upd_ne, mk3_true, flatten_replicate_one, stepK_if, ilt_true, ilt_false, ile_true, ile_false, Try.ntmps23]))
      | (refine ac_cond_h fun Kt Kf ht hf => ?_; simp (disch := omega) [go_sem, *]; try (refine ⟨fun hc => ?_, fun hc => ?_⟩ <;> try (exfalso; omega))))
    refine ac_ret ?_
    refine ⟨by simp, _, (by simp (disch := omega) [go_sem] <;> rfl), ?_⟩
    refine ret_id ⟨fun j hj => rfl, by simp [go_sem, below], by simp [go_sem, hae.out], rfl, rfl⟩
end Go.AM

namespace Go.AM
open Go.Proofs Wl
set_option maxRecDepth 10000
set_option maxHeartbeats 4000000
theorem settle_at {w : Wd} {p b : Nat} {h0 h : AHeap} {n n1 : Nat} (A : At w p b h0 h n) (hn : n ≤ n1) (hw : Wok w) (hl : w.last ≤ 50000000000) (nl : Bool) (ord : List Int) (hord : ∀ x ∈ ord, 0 ≤ x ∧ x < 256) (hol : ord.length ≤ 200) (K0 : AV → AHeap → Nat → Prop)
    (hK0 : ∀ w' k h' n', Dls w w' k → w'.mails = [] → w'.last ≤ w.last + 80000 → n1 ≤ n' → At w' p b h0 h' n' → K0 (bv true) h' n') : ACalls Try.prog 24 [.ptr p 0, .fslc nl false 1 (ord.map (iv .u8))] h n1 K0 := by
  refine ACalls.entry (by kernel_rfl) fun hb _ => calls_of Try.func24 rfl (by kernel_rfl) (by simp [Try.ntmps24]) ?_
  have hM : wts w.mails ≤ 400 := by have := wts_le w.mails; have := hw.ml; omega
  replace hK0 : Hide _ := hK0
  replace A : Hide _ := A
  replace hw : Hide _ := hw
  replace hord : Hide _ := hord
  repeat' (first
    | (refine ac_seq_h fun K hK => ?_)
    | (refine ac_region_h fun K hK => ?_; simp (disch := omega) [go_sem, *, Try.ntmps24])
    | (refine ac_draw_h mixed (by kernel_rfl) fun K hK => ?_; simp (disch := omega) [go_sem, *, wrap64_id, upd_ne, mk3_true, flatten_replicate_one, stepK_if, ilt_true, ilt_false, ile_true, ile_false, Try.ntmps24])
    | (apply Hide.out hK; clear hK K; try with_reducible dsimp only [thenA])
    | (apply Hide.out ht; clear ht hf Kt Kf)
    | (apply Hide.out hf; clear ht hf Kt Kf)
    | (clear hK K; apply Hide.out hK; clear hK K; try with_reducible dsimp only [thenA])
    | (clear hK K; clear hK K; apply Hide.out hK; clear hK K; try with_reducible dsimp only [thenA])
    | (refine ac_block ?_)
    | (refine ac_skip ?_; simp only [thenA, blockA])
    | (refine ac_exit ?_; simp only [thenA, blockA, if_true, if_false, Nat.reduceEqDiff])
    | (with_reducible show nextK _ _ _ _ _ _ _; simp (disch := omega) [go_sem, *, wrap64_id, upd_ne, mk3_true, flatten_replicate_one, stepK_if, ilt_true, ilt_false, ile_true, ile_false, Try.ntmps24])
    | (refine wantK_split (fun hc => ?_) (fun hc => ?_) <;> (try simp only [Bool.not_eq_true', Bool.not_eq_false', Bool.not_eq_eq_eq_not, Bool.not_true, Bool.not_false, decide_eq_true_eq, decide_eq_false_iff_not, Int.not_lt, Int.not_le] at hc) <;> (try (exfalso; omega)) <;> (try simp (disch := omega) [go_sem, *, wrap64_id, upd_ne, mk3_true, flatten_replicate_one, stepK_if, ilt_true, ilt_false, ile_true, ile_false, Try.ntmps24]))
    | (refine ac_cond_h fun Kt Kf ht hf => ?_; simp (disch := omega) [go_sem, *, wrap64_id, upd_ne, mk3_true, flatten_replicate_one, stepK_if, ilt_true, ilt_false, ile_true, ile_false, Try.ntmps24]; try (refine ⟨fun hc => ?_, fun hc => ?_⟩ <;> try (exfalso; omega))))
  refine ac_loop_wk (fun s' => ∃ (i : Nat) (w1 : Wd) (H : AHeap) (n2 : Nat), Dls w w1 i ∧ Wok w1 ∧ w1.last ≤ w.last + 200 * i ∧ n1 ≤ n2 ∧ At w1 p b h0 H n2 ∧ s' = ⟨40, [(0, .ptr p 0), (1, .fslc nl false 1 (ord.map (iv .u8))), (4, bv false), (5, iv .i64 i)], H, n2⟩) (fun z => 1000 - (intAt z 5).toNat) ?_ ?_
  · refine loop_start (by simp [go_sem]) (Sub.refl _) ⟨0, w, _, _, .refl, hw.out, by omega, ?_, At.mono A.out ?_, rfl⟩
    · omega
    · omega
  rintro s' ⟨i, w1, H, n2, D, hw1, hl1, hn2, A1, rfl⟩
  have hDw := D.go.2
  have hi : i ≤ 400 := by omega
  obtain ⟨X, hX1, hX2⟩ := At.mails A1 hw1
  obtain ⟨x1, x2, x3, rfl, hx⟩ := hX1
  have hml := hw1.ml
  replace A1 : Hide _ := A1
  replace D : Hide _ := D
  replace hw1 : Hide _ := hw1
  replace hX2 : Hide _ := hX2
  repeat' (first
    | (refine ac_seq_h fun K hK => ?_)
    | (refine ac_region_h fun K hK => ?_; simp (disch := omega) [go_sem, *, ilt_true])
    | (refine ac_draw_h mixed (by kernel_rfl) fun K hK => ?_; simp (disch := omega) [go_sem, *, wrap64_id, upd_ne, mk3_true, flatten_replicate_one, stepK_if, ilt_true, ilt_false, ile_true, ile_false, Try.ntmps24])
    | (apply Hide.out hK; clear hK K; try with_reducible dsimp only [thenA])
    | (apply Hide.out ht; clear ht hf Kt Kf)
    | (apply Hide.out hf; clear ht hf Kt Kf)
    | (clear hK K; apply Hide.out hK; clear hK K; try with_reducible dsimp only [thenA])
    | (clear hK K; clear hK K; apply Hide.out hK; clear hK K; try with_reducible dsimp only [thenA])
    | (refine ac_block ?_)
    | (refine ac_skip ?_; simp only [thenA])
    | (refine ac_exit ?_; simp only [thenA, blockA, if_true, if_false, Nat.reduceEqDiff])
    | (with_reducible show nextK _ _ _ _ _ _ _; simp (disch := omega) [go_sem, *, wrap64_id, upd_ne, mk3_true, flatten_replicate_one, stepK_if, ilt_true, ilt_false, ile_true, ile_false, Try.ntmps24])
    | (refine wantK_split (fun hc => ?_) (fun hc => ?_) <;> (try simp only [Bool.not_eq_true', Bool.not_eq_false', Bool.not_eq_eq_eq_not, Bool.not_true, Bool.not_false, decide_eq_true_eq, decide_eq_false_iff_not, Int.not_lt, Int.not_le] at hc) <;> (try (exfalso; omega)) <;> (try simp (disch := omega) [go_sem, *, wrap64_id, upd_ne, mk3_true, flatten_replicate_one, stepK_if, ilt_true, ilt_false, ile_true, ile_false, Try.ntmps24]))
    | (refine ac_cond_h fun Kt Kf ht hf => ?_; simp (disch := omega) [go_sem, *]; try (refine ⟨fun hc => ?_, fun hc => ?_⟩ <;> try (exfalso; omega))))
  refine APureAt.call (hX2.out _) ?_
  clear hX2
  by_cases hm0 : w1.mails = []
  · have hm1 : w1.mails.length = 0 := by rw [hm0]; rfl
    replace hm0 : Hide _ := hm0
    replace hx : Hide _ := hx
    have hm2 : ((w1.mails.length : Int) == 0) = true := by simp [hm1]
    repeat' (first
      | (refine ac_seq_h fun K hK => ?_)
      | (refine ac_region_h fun K hK => ?_; simp (disch := omega) [go_sem, *])
      | (refine ac_draw_h mixed (by kernel_rfl) fun K hK => ?_; simp (disch := omega) [go_sem, *, wrap64_id, upd_ne, mk3_true, flatten_replicate_one, stepK_if, ilt_true, ilt_false, ile_true, ile_false, Try.ntmps24])
      | (apply Hide.out hK; clear hK K; try with_reducible dsimp only [thenA])
      | (apply Hide.out ht; clear ht hf Kt Kf)
      | (apply Hide.out hf; clear ht hf Kt Kf)
      | (clear hK K; apply Hide.out hK; clear hK K; try with_reducible dsimp only [thenA])
      | (clear hK K; clear hK K; apply Hide.out hK; clear hK K; try with_reducible dsimp only [thenA])
      | (refine ac_block ?_)
      | (refine ac_skip ?_; simp only [thenA, blockA])
      | (refine ac_exit ?_; simp only [thenA, blockA, if_true, if_false, Nat.reduceEqDiff])
      | (with_reducible show nextK _ _ _ _ _ _ _; simp (disch := omega) [go_sem, *])
      | (refine wantK_split (fun hc => ?_) (fun hc => ?_) <;> (try simp only [Bool.not_eq_true', Bool.not_eq_false', Bool.not_eq_eq_eq_not, Bool.not_true, Bool.not_false, decide_eq_true_eq, decide_eq_false_iff_not, Int.not_lt, Int.not_le] at hc) <;> (try (exfalso; omega)) <;> (try simp (disch := omega) [go_sem, *, wrap64_id, upd_ne, mk3_true, flatten_replicate_one, stepK_if, ilt_true, ilt_false, ile_true, ile_false, Try.ntmps24]))
      | (refine ac_cond_h fun Kt Kf ht hf => ?_; simp (disch := omega) [go_sem, *]; try (refine ⟨fun hc => ?_, fun hc => ?_⟩ <;> try (exfalso; omega))))
    refine ac_ret ?_
    refine ⟨by simp, _, (by simp (disch := omega) [go_sem] <;> rfl), ?_⟩
    refine ret_id ?_
    refine hK0.out w1 i H _ D.out hm0.out (by omega) ?_ (At.mono A1.out ?_)
    · simp only; omega
    · simp only; omega
  · obtain rfl := hx hm0
    have hm1 : 0 < w1.mails.length := List.length_pos_iff.2 hm0
    have hm2 : ((w1.mails.length : Int) == 0) = false := by simp; omega
    clear hx hm0
    by_cases ho : ord = []
    · subst ho
      obtain ⟨m, hm3, hm4, _⟩ := at_k hm1
      have hmm : Hide (m ∈ w1.mails) := List.mem_of_getElem? hm4
      replace hm4 : Hide _ := hm4
      repeat' (first
        | (refine ac_seq_h fun K hK => ?_)
        | (refine ac_region_h fun K hK => ?_; simp (disch := omega) [go_sem, *])
        | (refine ac_draw_h mixed (by kernel_rfl) fun K hK => ?_; simp (disch := omega) [go_sem, *, wrap64_id, upd_ne, mk3_true, flatten_replicate_one, stepK_if, ilt_true, ilt_false, ile_true, ile_false, Try.ntmps24])
        | (apply Hide.out hK; clear hK K; try with_reducible dsimp only [thenA])
        | (apply Hide.out ht; clear ht hf Kt Kf)
        | (apply Hide.out hf; clear ht hf Kt Kf)
        | (clear hK K; apply Hide.out hK; clear hK K; try with_reducible dsimp only [thenA])
        | (clear hK K; clear hK K; apply Hide.out hK; clear hK K; try with_reducible dsimp only [thenA])
        | (refine ac_block ?_)
        | (refine ac_skip ?_; simp only [thenA])
        | (refine ac_exit ?_; simp only [thenA, blockA, if_true, if_false, Nat.reduceEqDiff])
        | (with_reducible show nextK _ _ _ _ _ _ _; simp (disch := omega) [go_sem, *])
        | (refine wantK_split (fun hc => ?_) (fun hc => ?_) <;> (try simp only [Bool.not_eq_true', Bool.not_eq_false', Bool.not_eq_eq_eq_not, Bool.not_true, Bool.not_false, decide_eq_true_eq, decide_eq_false_iff_not, Int.not_lt, Int.not_le] at hc) <;> (try (exfalso; omega)) <;> (try simp (disch := omega) [go_sem, *, wrap64_id, upd_ne, mk3_true, flatten_replicate_one, stepK_if, ilt_true, ilt_false, ile_true, ile_false, Try.ntmps24]))
        | (refine ac_cond_h fun Kt Kf ht hf => ?_; simp (disch := omega) [go_sem, *]; try (refine ⟨fun hc => ?_, fun hc => ?_⟩ <;> try (exfalso; omega))))
      refine At.do A1.out (by omega) hw1.out (by omega) ⟨3, 0, 0, m.id, ByteArray.empty⟩ _ (fun H' n3 hn3 A2 => ?_)
      obtain ⟨w2, m2, e1, e2, e3, e4⟩ := dst hw1.out hmm.out
      have ed : doW w1 ⟨3, 0, 0, m.id, ByteArray.empty⟩ = (w2, 0) := by
        rw [doW_lean (by simp [lean])]
        exact e1
      have hlast := (doW_last hw1.out ⟨3, 0, 0, m.id, ByteArray.empty⟩).1
      rw [ed] at A2 hlast ⊢
      simp only at A2 hlast
      have D2 := Dls.step D.out e2 hw1.out e3 e4
      replace D2 : Hide _ := D2
      replace e4 : Hide _ := e4
      replace A2 : Hide _ := A2
      replace e3 : Hide _ := e3
      replace ed : Hide _ := ed
      replace e1 : Hide _ := e1
      replace e2 : Hide _ := e2
      repeat' (first
        | (refine ac_seq_h fun K hK => ?_)
        | (refine ac_region_h fun K hK => ?_; simp (disch := omega) [go_sem, *, wrap64_id])
        | (refine ac_draw_h mixed (by kernel_rfl) fun K hK => ?_; simp (disch := omega) [go_sem, *, wrap64_id, upd_ne, mk3_true, flatten_replicate_one, stepK_if, ilt_true, ilt_false, ile_true, ile_false, Try.ntmps24])
        | (apply Hide.out hK; clear hK K; try with_reducible dsimp only [thenA])
        | (apply Hide.out ht; clear ht hf Kt Kf)
        | (apply Hide.out hf; clear ht hf Kt Kf)
        | (clear hK K; apply Hide.out hK; clear hK K; try with_reducible dsimp only [thenA])
        | (clear hK K; clear hK K; apply Hide.out hK; clear hK K; try with_reducible dsimp only [thenA])
        | (refine ac_block ?_)
        | (refine ac_skip ?_; simp only [thenA, blockA])
        | (refine ac_exit ?_; simp only [thenA, blockA, if_true, if_false, Nat.reduceEqDiff])
        | (with_reducible show nextK _ _ _ _ _ _ _; simp (disch := omega) [go_sem, *])
        | (refine wantK_split (fun hc => ?_) (fun hc => ?_) <;> (try simp only [Bool.not_eq_true', Bool.not_eq_false', Bool.not_eq_eq_eq_not, Bool.not_true, Bool.not_false, decide_eq_true_eq, decide_eq_false_iff_not, Int.not_lt, Int.not_le] at hc) <;> (try (exfalso; omega)) <;> (try simp (disch := omega) [go_sem, *, wrap64_id, upd_ne, mk3_true, flatten_replicate_one, stepK_if, ilt_true, ilt_false, ile_true, ile_false, Try.ntmps24]))
        | (refine ac_cond_h fun Kt Kf ht hf => ?_; simp (disch := omega) [go_sem, *]; try (refine ⟨fun hc => ?_, fun hc => ?_⟩ <;> try (exfalso; omega))))
      refine round_end (by simp [go_sem]) (Sub.refl _) ⟨i + 1, w2, _, _, D2.out, e4.out, by omega, ?_, At.mono A2.out ?_, rfl⟩ (by simp [intAt, go_sem]; omega)
      · omega
      · omega
    · have ho1 : 0 < ord.length := List.length_pos_iff.2 ho
      obtain ⟨q, hqe⟩ : ∃ q, q = i % ord.length := ⟨_, rfl⟩
      have hq : (i : Int).tmod ord.length = q := by rw [hqe]; exact (Int.ofNat_tmod i ord.length).symm
      have hq2 : q < ord.length := by rw [hqe]; exact Nat.mod_lt _ ho1
      obtain ⟨x, hx1, hx2, _⟩ := at_k hq2
      have hxb := hord.out x (List.mem_of_getElem? hx2)
      obtain ⟨xn, rfl⟩ : ∃ xn : Nat, x = xn := ⟨x.toNat, by omega⟩
      obtain ⟨r, hre⟩ : ∃ r, r = xn % w1.mails.length := ⟨_, rfl⟩
      have hr : (xn : Int).tmod w1.mails.length = r := by rw [hre]; exact (Int.ofNat_tmod xn w1.mails.length).symm
      have hr2 : r < w1.mails.length := by rw [hre]; exact Nat.mod_lt _ hm1
      obtain ⟨m, hm3, hm4, _⟩ := at_k hr2
      have hmm : Hide (m ∈ w1.mails) := List.mem_of_getElem? hm4
      have hm5 : ¬ w1.mails = [] := by intro e; rw [e] at hm1; simp at hm1
      replace hm4 : Hide _ := hm4
      replace hx2 : Hide _ := hx2
      replace hqe : Hide _ := hqe
      replace hre : Hide _ := hre
      repeat' (first
        | (refine ac_seq_h fun K hK => ?_)
        | (refine ac_region_h fun K hK => ?_; simp (disch := omega) [go_sem, *, wrap64_id, ile_true])
        | (refine ac_draw_h mixed (by kernel_rfl) fun K hK => ?_; simp (disch := omega) [go_sem, *, wrap64_id, upd_ne, mk3_true, flatten_replicate_one, stepK_if, ilt_true, ilt_false, ile_true, ile_false, Try.ntmps24])
        | (apply Hide.out hK; clear hK K; try with_reducible dsimp only [thenA])
        | (apply Hide.out ht; clear ht hf Kt Kf)
        | (apply Hide.out hf; clear ht hf Kt Kf)
        | (clear hK K; apply Hide.out hK; clear hK K; try with_reducible dsimp only [thenA])
        | (clear hK K; clear hK K; apply Hide.out hK; clear hK K; try with_reducible dsimp only [thenA])
        | (refine ac_block ?_)
        | (refine ac_skip ?_; simp only [thenA])
        | (refine ac_exit ?_; simp only [thenA, blockA, if_true, if_false, Nat.reduceEqDiff])
        | (with_reducible show nextK _ _ _ _ _ _ _; simp (disch := omega) [go_sem, *])
        | (refine wantK_split (fun hc => ?_) (fun hc => ?_) <;> (try simp only [Bool.not_eq_true', Bool.not_eq_false', Bool.not_eq_eq_eq_not, Bool.not_true, Bool.not_false, decide_eq_true_eq, decide_eq_false_iff_not, Int.not_lt, Int.not_le] at hc) <;> (try (exfalso; omega)) <;> (try simp (disch := omega) [go_sem, *, wrap64_id, upd_ne, mk3_true, flatten_replicate_one, stepK_if, ilt_true, ilt_false, ile_true, ile_false, Try.ntmps24]))
        | (refine ac_cond_h fun Kt Kf ht hf => ?_; simp (disch := omega) [go_sem, *]; try (refine ⟨fun hc => ?_, fun hc => ?_⟩ <;> try (exfalso; omega))))
      refine At.do A1.out (by omega) hw1.out (by omega) ⟨3, 0, 0, m.id, ByteArray.empty⟩ _ (fun H' n3 hn3 A2 => ?_)
      obtain ⟨w2, m2, e1, e2, e3, e4⟩ := dst hw1.out hmm.out
      have ed : doW w1 ⟨3, 0, 0, m.id, ByteArray.empty⟩ = (w2, 0) := by
        rw [doW_lean (by simp [lean])]
        exact e1
      have hlast := (doW_last hw1.out ⟨3, 0, 0, m.id, ByteArray.empty⟩).1
      rw [ed] at A2 hlast ⊢
      simp only at A2 hlast
      have D2 := Dls.step D.out e2 hw1.out e3 e4
      replace D2 : Hide _ := D2
      replace e4 : Hide _ := e4
      replace A2 : Hide _ := A2
      replace e3 : Hide _ := e3
      replace ed : Hide _ := ed
      replace e1 : Hide _ := e1
      replace e2 : Hide _ := e2
      repeat' (first
        | (refine ac_seq_h fun K hK => ?_)
        | (refine ac_region_h fun K hK => ?_; simp (disch := omega) [go_sem, *, wrap64_id])
        | (refine ac_draw_h mixed (by kernel_rfl) fun K hK => ?_; simp (disch := omega) [go_sem, *, wrap64_id, upd_ne, mk3_true, flatten_replicate_one, stepK_if, ilt_true, ilt_false, ile_true, ile_false, Try.ntmps24])
        | (apply Hide.out hK; clear hK K; try with_reducible dsimp only [thenA])
        | (apply Hide.out ht; clear ht hf Kt Kf)
        | (apply Hide.out hf; clear ht hf Kt Kf)
        | (clear hK K; apply Hide.out hK; clear hK K; try with_reducible dsimp only [thenA])
        | (clear hK K; clear hK K; apply Hide.out hK; clear hK K; try with_reducible dsimp only [thenA])
        | (refine ac_block ?_)
        | (refine ac_skip ?_; simp only [thenA, blockA])
        | (refine ac_exit ?_; simp only [thenA, blockA, if_true, if_false, Nat.reduceEqDiff])
        | (with_reducible show nextK _ _ _ _ _ _ _; simp (disch := omega) [go_sem, *])
        | (refine wantK_split (fun hc => ?_) (fun hc => ?_) <;> (try simp only [Bool.not_eq_true', Bool.not_eq_false', Bool.not_eq_eq_eq_not, Bool.not_true, Bool.not_false, decide_eq_true_eq, decide_eq_false_iff_not, Int.not_lt, Int.not_le] at hc) <;> (try (exfalso; omega)) <;> (try simp (disch := omega) [go_sem, *, wrap64_id, upd_ne, mk3_true, flatten_replicate_one, stepK_if, ilt_true, ilt_false, ile_true, ile_false, Try.ntmps24]))
        | (refine ac_cond_h fun Kt Kf ht hf => ?_; simp (disch := omega) [go_sem, *]; try (refine ⟨fun hc => ?_, fun hc => ?_⟩ <;> try (exfalso; omega))))
      refine round_end (by simp [go_sem]) (Sub.refl _) ⟨i + 1, w2, _, _, D2.out, e4.out, by omega, ?_, At.mono A2.out ?_, rfl⟩ (by simp [intAt, go_sem]; omega)
      · omega
      · omega
end Go.AM

namespace Go.AM
open Go.Proofs Wl
set_option maxRecDepth 10000
set_option maxHeartbeats 4000000
theorem sameL_refl (A : List ByteArray) : sameL A A = true := by simp [sameL]
/-- what holds behind some rounds -/
structure Rnd (w0 w : Wd) (i : Nat) : Prop where
  ok : Wok w
  st : w.st = w0.st
  said : ∀ x y, (w.tk x y).said = (w0.tk x y).said
  known : ∀ a b, a < w0.st → b < w0.st → a ≠ b → ((w0.tk a b).said.length : Int) ≤ (w.tk a b).known ∨ (i : Int) ≤ (w.tk a b).known
  mails : 0 < i → w.mails = []
theorem Rnd.next {w0 w w1 w3 : Wd} {i k1 k2 : Nat} {nx : Int} (R : Rnd w0 w i) (hsz : szs w0 (grid w0.st) ≤ 200) (d1 : Dls w w1 k1) (e1 : w1.mails = []) (hnx : nx = lat w (grid w.st) w.tick) (hn1 : nx ≤ 1048576) (d2 : Dls (timeW w1 nx).1 w3 k2) (e3 : w3.mails = []) : Rnd w0 w3 (i + 1) := by
  have hs : szs w (grid w.st) ≤ 200 := by rw [szs_same (w := w0) R.st R.said, R.st]; exact hsz
  obtain ⟨r1, r2, r3, r4⟩ := round R.ok d1 e1 (by rw [hnx]; exact (lat_ge w _ _).1) hn1 (fun a b ha hb hab ho => by
    have hp : isPair w a b = true := pair_iff.2 ⟨a, b, ha, hb, hab, rfl, rfl⟩
    have hd : dueW w a b = ((w.tk a b).due, true) := by simp [dueW, hp, ho]
    have := (lat_ge w (grid w.st) w.tick).2 (a, b) (mem_grid.2 ⟨ha, hb⟩) (by simp only; rw [hd])
    simp only at this
    rw [hd] at this
    rw [hnx]; exact this) hs d2 e3
  refine ⟨r1, r2.trans R.st, fun x y => (r3 x y).trans (R.said x y), fun a b ha hb hab => ?_, fun _ => e3⟩
  rw [← R.st] at ha hb
  have h4 := r4 a b ha hb hab
  rw [R.said] at h4
  have h5 := R.known a b (by rw [← R.st]; exact ha) (by rw [← R.st]; exact hb) hab
  have h6 := (r1.tk a b).kh
  have h7 := (r1.tk a b).hs
  rw [r3 a b, R.said a b] at h7
  rcases h4 with h | h
  · exact .inl h
  · rcases h5 with h5 | h5
    · exact .inl (by omega)
    · exact .inr (by omega)
theorem Rnd.final {w0 w : Wd} {i : Nat} (R : Rnd w0 w i) (hi : szs w0 (grid w0.st) < i) {a b : Nat} (ha : a < w0.st) (hb : b < w0.st) : openW w a b = 0 ∧ sameL (saidW w a b) (heardW w b a) = true := by
  by_cases hab : a = b
  · have hP : isPair w a b = false := by simp [isPair, hab]
    simp [openW, saidW, heardW, hP, sameL]
  · have hP : isPair w a b = true := pair_iff.2 ⟨a, b, by rw [R.st]; exact ha, by rw [R.st]; exact hb, hab, rfl, rfl⟩
    have hk := R.known a b ha hb hab
    have hs := sz_le (w := w0) (mem_grid.2 ⟨ha, hb⟩)
    rw [sz_pair ha hb hab] at hs
    have t := R.ok.tk a b
    have t1 := t.kh; have t2 := t.hs
    rw [R.said a b] at t2
    have e1 : (w.tk a b).known = (w0.tk a b).said.length := by omega
    have e2 : (w.tk a b).heard = (w0.tk a b).said.length := by omega
    have e3 : heardW w b a = (w.tk a b).said := by
      simp only [heardW, hP, if_true, Int.toNat_natCast, e2, R.said a b]
      exact List.take_of_length_le (Nat.le_refl _)
    have e4 : saidW w a b = (w.tk a b).said := by simp [saidW, hP]
    refine ⟨?_, by rw [e3, e4]; exact sameL_refl _⟩
    simp only [openW, hP, if_true, Int.toNat_natCast, opn, e1, R.said a b]; omega
theorem relayInTheEnd_spec (st wait : Int) (l : List Step) (nl : Bool) (hl : l.length ≤ 9223372036854775807) (nl2 : Bool) (ord : List Int) (hord : ∀ x ∈ ord, 0 ≤ x ∧ x < 256) : APure Try.prog 6 [iv .i64 st, iv .i64 wait, .fslc nl false 5 (l.map encStep), .fslc nl2 false 1 (ord.map (iv .u8))] (bv true) := by
  intro h n
  refine ACalls.pure (ACalls.entry (by kernel_rfl) fun hb _ => calls_of Try.func6 rfl (by kernel_rfl) (by simp [Try.ntmps6]) ?_)
  have c7 := light_spec l nl false 60 hl
  replace hord : Hide _ := hord
  cases hli : lightL l 60 with
  | false =>
    rw [hli] at c7
    repeat' (first
      | (refine ac_seq_h fun K hK => ?_)
      | (refine ac_region_h fun K hK => ?_; simp (disch := omega) [go_sem, *, Try.ntmps6 ])
      | (refine ac_draw_h mixed (by kernel_rfl) fun K hK => ?_; simp (disch := omega) [go_sem, *, wrap64_id, upd_ne, mk3_true, flatten_replicate_one, stepK_if, ilt_true, ilt_false, ile_true, ile_false, Try.ntmps6 ])
      | (apply Hide.out hK; clear hK K; try with_reducible dsimp only [thenA])
      | (apply Hide.out ht; clear ht hf Kt Kf)
      | (apply Hide.out hf; clear ht hf Kt Kf)
      | (clear hK K; apply Hide.out hK; clear hK K; try with_reducible dsimp only [thenA])
      | (clear hK K; clear hK K; apply Hide.out hK; clear hK K; try with_reducible dsimp only [thenA])
      | (with_reducible refine APure.call (c7) ?_; try simp (disch := omega) [go_sem, * ])
      | (with_reducible refine APure.call (worlds_spec) ?_; try simp (disch := omega) [go_sem, * ])
      | (refine ac_block ?_)
      | (refine ac_skip ?_; simp only [thenA, blockA])
      | (refine ac_exit ?_; simp only [thenA, blockA, if_true, if_false, Nat.reduceEqDiff])
      | (with_reducible show nextK _ _ _ _ _ _ _; simp (disch := omega) [go_sem, *, wrap64_id, upd_ne, mk3_true, flatten_replicate_one, stepK_if, ilt_true, ilt_false, ile_true, ile_false, Try.ntmps6 ])
      | (refine wantK_split (fun hc => ?_) (fun hc => ?_) <;> (try simp only [Bool.not_eq_true', Bool.not_eq_false', Bool.not_eq_eq_eq_not, Bool.not_true, Bool.not_false, decide_eq_true_eq, decide_eq_false_iff_not, Int.not_lt, Int.not_le] at hc) <;> (try (exfalso; omega)) <;> (try simp (disch := omega) [go_sem, *, wrap64_id, upd_ne, mk3_true, flatten_replicate_one, stepK_if, ilt_true, ilt_false, ile_true, ile_false, Try.ntmps6 ]))
      | (refine ac_cond_h fun Kt Kf ht hf => ?_; simp (disch := omega) [go_sem, * ]; try (refine ⟨fun hc => ?_, fun hc => ?_⟩ <;> try (exfalso; omega))))
    (refine ac_ret ?_; try dsimp only [thenA, blockA]; refine ⟨by simp, _, (by first | rfl | (simp (disch := omega) [go_sem, upd_ne] <;> rfl)), ?_⟩; refine ret_id ⟨fun k hk => (by first | rfl | (repeat rw [upd_ne _ _ _ _ (by omega)])), (by simp [go_sem, below]), (by simp [go_sem] <;> omega), by simp, by simp⟩)
  | true =>
    rw [hli] at c7
    have hl3 : l.length ≤ 60 := by
      simp only [lightL, Bool.and_eq_true, decide_eq_true_eq] at hli; omega
    clear hl hli
    by_cases hol : 200 < ord.length
    · skip
      repeat' (first
        | (refine ac_seq_h fun K hK => ?_)
        | (refine ac_region_h fun K hK => ?_; simp (disch := omega) [go_sem, *, Try.ntmps6 ])
        | (refine ac_draw_h mixed (by kernel_rfl) fun K hK => ?_; simp (disch := omega) [go_sem, *, wrap64_id, upd_ne, mk3_true, flatten_replicate_one, stepK_if, ilt_true, ilt_false, ile_true, ile_false, Try.ntmps6 ])
        | (apply Hide.out hK; clear hK K; try with_reducible dsimp only [thenA])
        | (apply Hide.out ht; clear ht hf Kt Kf)
        | (apply Hide.out hf; clear ht hf Kt Kf)
        | (clear hK K; apply Hide.out hK; clear hK K; try with_reducible dsimp only [thenA])
        | (clear hK K; clear hK K; apply Hide.out hK; clear hK K; try with_reducible dsimp only [thenA])
        | (with_reducible refine APure.call (c7) ?_; try simp (disch := omega) [go_sem, *, ilt_true ])
        | (with_reducible refine APure.call (worlds_spec) ?_; try simp (disch := omega) [go_sem, * ])
        | (refine ac_block ?_)
        | (refine ac_skip ?_; simp only [thenA, blockA])
        | (refine ac_exit ?_; simp only [thenA, blockA, if_true, if_false, Nat.reduceEqDiff])
        | (with_reducible show nextK _ _ _ _ _ _ _; simp (disch := omega) [go_sem, *, wrap64_id, upd_ne, mk3_true, flatten_replicate_one, stepK_if, ilt_true, ilt_false, ile_true, ile_false, Try.ntmps6 ])
        | (refine wantK_split (fun hc => ?_) (fun hc => ?_) <;> (try simp only [Bool.not_eq_true', Bool.not_eq_false', Bool.not_eq_eq_eq_not, Bool.not_true, Bool.not_false, decide_eq_true_eq, decide_eq_false_iff_not, Int.not_lt, Int.not_le] at hc) <;> (try (exfalso; omega)) <;> (try simp (disch := omega) [go_sem, *, wrap64_id, upd_ne, mk3_true, flatten_replicate_one, stepK_if, ilt_true, ilt_false, ile_true, ile_false, Try.ntmps6 ]))
        | (refine ac_cond_h fun Kt Kf ht hf => ?_; simp (disch := omega) [go_sem, * ]; try (refine ⟨fun hc => ?_, fun hc => ?_⟩ <;> try (exfalso; omega))))
      (refine ac_ret ?_; try dsimp only [thenA, blockA]; refine ⟨by simp, _, (by first | rfl | (simp (disch := omega) [go_sem, upd_ne] <;> rfl)), ?_⟩; refine ret_id ⟨fun k hk => (by first | rfl | (repeat rw [upd_ne _ _ _ _ (by omega)])), (by simp [go_sem, below]), (by simp [go_sem] <;> omega), by simp, by simp⟩)
    repeat' (first
      | (refine ac_seq_h fun K hK => ?_)
      | (refine ac_region_h fun K hK => ?_; simp (disch := omega) [go_sem, *, Try.ntmps6 ])
      | (refine ac_draw_h mixed (by kernel_rfl) fun K hK => ?_; simp (disch := omega) [go_sem, *, wrap64_id, upd_ne, mk3_true, flatten_replicate_one, stepK_if, ilt_true, ilt_false, ile_true, ile_false, Try.ntmps6 ])
      | (apply Hide.out hK; clear hK K; try with_reducible dsimp only [thenA])
      | (apply Hide.out ht; clear ht hf Kt Kf)
      | (apply Hide.out hf; clear ht hf Kt Kf)
      | (clear hK K; apply Hide.out hK; clear hK K; try with_reducible dsimp only [thenA])
      | (clear hK K; clear hK K; apply Hide.out hK; clear hK K; try with_reducible dsimp only [thenA])
      | (with_reducible refine APure.call (c7) ?_; try simp (disch := omega) [go_sem, *, ilt_false ])
      | (with_reducible refine APure.call (worlds_spec) ?_; try simp (disch := omega) [go_sem, *, wrap64_id, upd_ne, mk3_true, flatten_replicate_one, stepK_if, ilt_true, ilt_false, ile_true, ile_false, Try.ntmps6 ])
      | (refine ac_block ?_)
      | (refine ac_skip ?_; simp only [thenA])
      | (refine ac_exit ?_; simp only [thenA, blockA, if_true, if_false, Nat.reduceEqDiff])
      | (with_reducible show nextK _ _ _ _ _ _ _; simp (disch := omega) [go_sem, *, wrap64_id, upd_ne, mk3_true, flatten_replicate_one, stepK_if, ilt_true, ilt_false, ile_true, ile_false, Try.ntmps6 ])
      | (refine wantK_split (fun hc => ?_) (fun hc => ?_) <;> (try simp only [Bool.not_eq_true', Bool.not_eq_false', Bool.not_eq_eq_eq_not, Bool.not_true, Bool.not_false, decide_eq_true_eq, decide_eq_false_iff_not, Int.not_lt, Int.not_le] at hc) <;> (try (exfalso; omega)) <;> (try simp (disch := omega) [go_sem, *, wrap64_id, upd_ne, mk3_true, flatten_replicate_one, stepK_if, ilt_true, ilt_false, ile_true, ile_false, Try.ntmps6 ]))
      | (refine ac_cond_h fun Kt Kf ht hf => ?_; simp (disch := omega) [go_sem, * ]; try (refine ⟨fun hc => ?_, fun hc => ?_⟩ <;> try (exfalso; omega))))
    refine At.new st wait _ _ (fun hc m hm => ?_) (fun hc p H m hm A => ?_)
    · skip
      repeat' (first
        | (refine ac_seq_h fun K hK => ?_)
        | (refine ac_region_h fun K hK => ?_; simp (disch := omega) [go_sem, * ])
        | (refine ac_draw_h mixed (by kernel_rfl) fun K hK => ?_; simp (disch := omega) [go_sem, *, wrap64_id, upd_ne, mk3_true, flatten_replicate_one, stepK_if, ilt_true, ilt_false, ile_true, ile_false, Try.ntmps6 ])
        | (apply Hide.out hK; clear hK K; try with_reducible dsimp only [thenA])
        | (apply Hide.out ht; clear ht hf Kt Kf)
        | (apply Hide.out hf; clear ht hf Kt Kf)
        | (clear hK K; apply Hide.out hK; clear hK K; try with_reducible dsimp only [thenA])
        | (clear hK K; clear hK K; apply Hide.out hK; clear hK K; try with_reducible dsimp only [thenA])
        | (with_reducible refine APure.call (c7) ?_; try simp (disch := omega) [go_sem, *, wrap64_id, upd_ne, mk3_true, flatten_replicate_one, stepK_if, ilt_true, ilt_false, ile_true, ile_false, Try.ntmps6 ])
        | (with_reducible refine APure.call (worlds_spec) ?_; try simp (disch := omega) [go_sem, * ])
        | (refine ac_block ?_)
        | (refine ac_skip ?_; simp only [thenA, blockA])
        | (refine ac_exit ?_; simp only [thenA, blockA, if_true, if_false, Nat.reduceEqDiff])
        | (with_reducible show nextK _ _ _ _ _ _ _; simp (disch := omega) [go_sem, * ])
        | (refine wantK_split (fun hc => ?_) (fun hc => ?_) <;> (try simp only [Bool.not_eq_true', Bool.not_eq_false', Bool.not_eq_eq_eq_not, Bool.not_true, Bool.not_false, decide_eq_true_eq, decide_eq_false_iff_not, Int.not_lt, Int.not_le] at hc) <;> (try (exfalso; omega)) <;> (try simp (disch := omega) [go_sem, *, wrap64_id, upd_ne, mk3_true, flatten_replicate_one, stepK_if, ilt_true, ilt_false, ile_true, ile_false, Try.ntmps6 ]))
        | (refine ac_cond_h fun Kt Kf ht hf => ?_; simp (disch := omega) [go_sem, * ]; try (refine ⟨fun hc => ?_, fun hc => ?_⟩ <;> try (exfalso; omega))))
      (refine ac_ret ?_; try dsimp only [thenA, blockA]; refine ⟨by simp, _, (by first | rfl | (simp (disch := omega) [go_sem, upd_ne] <;> rfl)), ?_⟩; refine ret_id ⟨fun k hk => (by first | rfl | (repeat rw [upd_ne _ _ _ _ (by omega)])), (by simp [go_sem, below]), (by simp [go_sem] <;> omega), by simp, by simp⟩)
    rw [Bool.and_eq_true] at hc
    obtain ⟨k1, k2⟩ := hc
    obtain ⟨k3, k4⟩ := Wl.within_iff.1 k1
    obtain ⟨k5, k6⟩ := Wl.within_iff.1 k2
    clear k1 k2
    obtain ⟨S, rfl⟩ : ∃ S : Nat, st = S := ⟨st.toNat, by omega⟩
    have w0 : Hide (Wok (newW S wait)) := Wok.new (by omega) (by omega) k5 k6
    rw [Int.toNat_natCast] at A
    replace A : Hide _ := A
    repeat' (first
      | (refine ac_seq_h fun K hK => ?_)
      | (refine ac_region_h fun K hK => ?_; simp (disch := omega) [go_sem, * ])
      | (refine ac_draw_h mixed (by kernel_rfl) fun K hK => ?_; simp (disch := omega) [go_sem, *, wrap64_id, upd_ne, mk3_true, flatten_replicate_one, stepK_if, ilt_true, ilt_false, ile_true, ile_false, Try.ntmps6 ])
      | (apply Hide.out hK; clear hK K; try with_reducible dsimp only [thenA])
      | (apply Hide.out ht; clear ht hf Kt Kf)
      | (apply Hide.out hf; clear ht hf Kt Kf)
      | (clear hK K; apply Hide.out hK; clear hK K; try with_reducible dsimp only [thenA])
      | (clear hK K; clear hK K; apply Hide.out hK; clear hK K; try with_reducible dsimp only [thenA])
      | (with_reducible refine APure.call (c7) ?_; try simp (disch := omega) [go_sem, *, wrap64_id, upd_ne, mk3_true, flatten_replicate_one, stepK_if, ilt_true, ilt_false, ile_true, ile_false, Try.ntmps6 ])
      | (with_reducible refine APure.call (worlds_spec) ?_; try simp (disch := omega) [go_sem, *, wrap64_id, upd_ne, mk3_true, flatten_replicate_one, stepK_if, ilt_true, ilt_false, ile_true, ile_false, Try.ntmps6 ])
      | (refine ac_block ?_)
      | (refine ac_skip ?_; simp only [thenA])
      | (refine ac_exit ?_; simp only [thenA, blockA, if_true, if_false, Nat.reduceEqDiff])
      | (with_reducible show nextK _ _ _ _ _ _ _; simp (disch := omega) [go_sem, * ])
      | (refine wantK_split (fun hc => ?_) (fun hc => ?_) <;> (try simp only [Bool.not_eq_true', Bool.not_eq_false', Bool.not_eq_eq_eq_not, Bool.not_true, Bool.not_false, decide_eq_true_eq, decide_eq_false_iff_not, Int.not_lt, Int.not_le] at hc) <;> (try (exfalso; omega)) <;> (try simp (disch := omega) [go_sem, *, wrap64_id, upd_ne, mk3_true, flatten_replicate_one, stepK_if, ilt_true, ilt_false, ile_true, ile_false, Try.ntmps6 ]))
      | (refine ac_cond_h fun Kt Kf ht hf => ?_; simp (disch := omega) [go_sem, * ]; try (refine ⟨fun hc => ?_, fun hc => ?_⟩ <;> try (exfalso; omega))))
    replace c7 : Hide _ := c7
    refine ac_loop_wk (fun s' => ∃ (i n1 : Nat) (H : AHeap), i ≤ l.length ∧ At (runW (newW S wait) (l.take i)) p (n + 1 + 8 + 8) h H n1 ∧ s' = ⟨121, [(0, iv .i64 S), (2, .fslc nl false 5 (l.map encStep)), (3, .fslc nl2 false 1 (ord.map (iv .u8))), (9, .ptr p 0), (11, iv .i64 i), (8, bv false)], H, n1⟩) (fun z => l.length - (intAt z 11).toNat) ?_ ?_
    · exact loop_start (by simp [go_sem]) (Sub.refl _) ⟨0, _, _, Nat.zero_le _, At.mono A.out (by omega), rfl⟩
    clear A H hm m
    rintro s' ⟨i, n1, H, hi, A, rfl⟩
    obtain ⟨w, hwe⟩ : ∃ w, Hide (w = runW (newW S wait) (l.take i)) := ⟨_, rfl⟩
    rw [← hwe.out] at A
    obtain ⟨ww, wl⟩ := runW_ok (l.take i) w0.out
    rw [← hwe.out] at ww wl
    have wl2 : w.last ≤ 12000 := by
      have h1 : (newW S wait).last = 0 := rfl
      rw [h1] at wl
      have h2 : (l.take i).length ≤ 60 := by rw [List.length_take]; omega
      omega
    clear wl
    replace A : Hide _ := A
    replace ww : Hide _ := ww
    by_cases hlt : i < l.length
    · obtain ⟨s, hs1, hs2, _⟩ := at_k hlt
      have hnext : Hide (runW (newW S wait) (l.take (i + 1)) = (doW w s).1) := by
        rw [Hide, List.take_succ_eq_append_getElem hlt, hs1, runW_snoc, ← hwe.out]
      repeat' (first
        | (refine ac_seq_h fun K hK => ?_)
        | (refine ac_region_h fun K hK => ?_; simp (disch := omega) [go_sem, *, ilt_true, ile_true])
        | (refine ac_draw_h mixed (by kernel_rfl) fun K hK => ?_; simp (disch := omega) [go_sem, *, wrap64_id, upd_ne, mk3_true, flatten_replicate_one, stepK_if, ilt_true, ilt_false, ile_true, ile_false, Try.ntmps6])
        | (apply Hide.out hK; clear hK K; try with_reducible dsimp only [thenA])
        | (apply Hide.out ht; clear ht hf Kt Kf)
        | (apply Hide.out hf; clear ht hf Kt Kf)
        | (clear hK K; apply Hide.out hK; clear hK K; try with_reducible dsimp only [thenA])
        | (clear hK K; clear hK K; apply Hide.out hK; clear hK K; try with_reducible dsimp only [thenA])
        | (refine ac_block ?_)
        | (refine ac_skip ?_; simp only [thenA])
        | (refine ac_exit ?_; simp only [thenA, blockA, if_true, if_false, Nat.reduceEqDiff])
        | (with_reducible show nextK _ _ _ _ _ _ _; simp (disch := omega) [go_sem, *, wrap64_id, upd_ne, mk3_true, flatten_replicate_one, stepK_if, ilt_true, ilt_false, ile_true, ile_false, Try.ntmps6])
        | (refine wantK_split (fun hc => ?_) (fun hc => ?_) <;> (try simp only [Bool.not_eq_true', Bool.not_eq_false', Bool.not_eq_eq_eq_not, Bool.not_true, Bool.not_false, decide_eq_true_eq, decide_eq_false_iff_not, Int.not_lt, Int.not_le] at hc) <;> (try (exfalso; omega)) <;> (try simp (disch := omega) [go_sem, *, wrap64_id, upd_ne, mk3_true, flatten_replicate_one, stepK_if, ilt_true, ilt_false, ile_true, ile_false, Try.ntmps6]))
        | (refine ac_cond_h fun Kt Kf ht hf => ?_; simp (disch := omega) [go_sem, *]; try (refine ⟨fun hc => ?_, fun hc => ?_⟩ <;> try (exfalso; omega))))
      refine At.do A.out (by omega) ww.out (by omega) s _ (fun H2 n2 hn2 A2 => ?_)
      replace A2 : Hide _ := A2
      clear A
      repeat' (first
        | (refine ac_seq_h fun K hK => ?_)
        | (refine ac_region_h fun K hK => ?_; simp (disch := omega) [go_sem, *, wrap64_id])
        | (refine ac_draw_h mixed (by kernel_rfl) fun K hK => ?_; simp (disch := omega) [go_sem, *, wrap64_id, upd_ne, mk3_true, flatten_replicate_one, stepK_if, ilt_true, ilt_false, ile_true, ile_false, Try.ntmps6])
        | (apply Hide.out hK; clear hK K; try with_reducible dsimp only [thenA])
        | (apply Hide.out ht; clear ht hf Kt Kf)
        | (apply Hide.out hf; clear ht hf Kt Kf)
        | (clear hK K; apply Hide.out hK; clear hK K; try with_reducible dsimp only [thenA])
        | (clear hK K; clear hK K; apply Hide.out hK; clear hK K; try with_reducible dsimp only [thenA])
        | (refine ac_block ?_)
        | (refine ac_skip ?_; simp only [thenA, blockA])
        | (refine ac_exit ?_; simp only [thenA, blockA, if_true, if_false, Nat.reduceEqDiff])
        | (with_reducible show nextK _ _ _ _ _ _ _; simp (disch := omega) [go_sem, *, wrap64_id, upd_ne, mk3_true, flatten_replicate_one, stepK_if, ilt_true, ilt_false, ile_true, ile_false, Try.ntmps6])
        | (refine wantK_split (fun hc => ?_) (fun hc => ?_) <;> (try simp only [Bool.not_eq_true', Bool.not_eq_false', Bool.not_eq_eq_eq_not, Bool.not_true, Bool.not_false, decide_eq_true_eq, decide_eq_false_iff_not, Int.not_lt, Int.not_le] at hc) <;> (try (exfalso; omega)) <;> (try simp (disch := omega) [go_sem, *, wrap64_id, upd_ne, mk3_true, flatten_replicate_one, stepK_if, ilt_true, ilt_false, ile_true, ile_false, Try.ntmps6]))
        | (refine ac_cond_h fun Kt Kf ht hf => ?_; simp (disch := omega) [go_sem, *, wrap64_id, upd_ne, mk3_true, flatten_replicate_one, stepK_if, ilt_true, ilt_false, ile_true, ile_false, Try.ntmps6]; try (refine ⟨fun hc => ?_, fun hc => ?_⟩ <;> try (exfalso; omega))))
      refine round_end (by simp [go_sem]) (Sub.refl _) ⟨i + 1, _, _, by omega, ?_, rfl⟩ (by simp [intAt, go_sem]; omega)
      rw [hnext.out]
      exact At.mono A2.out (by omega)
    have hst : Hide (w.st = S) := by rw [Hide, hwe.out, runW_st]; rfl
    have hwd := fun k => words_at A.out ww.out k
    rw [hst.out] at hwd
    obtain ⟨Z, hZ⟩ : ∃ Z, Hide (Z = szs w (grid S)) := ⟨_, rfl⟩
    rw [← hZ.out] at hwd
    obtain ⟨X, hX1, hX2⟩ := At.mails A.out ww.out
    obtain ⟨x1, x2, x3, rfl, hx⟩ := hX1
    have hml := ww.out.ml
    replace hx : Hide _ := hx
    replace hX2 : Hide _ := hX2
    have hZb : Z ≤ 10000 := by
      rw [hZ.out, ← rowP_all]
      have h1 := szs_60 ww.out (rowP S S 0)
      rw [rowP_len] at h1
      have h2 : S ≤ 10 := by omega
      have h3 : S * S ≤ 10 * 10 := Nat.mul_le_mul h2 h2
      omega
    by_cases hZ20 : 20 < Z
    · skip
      repeat' (first
        | (refine ac_seq_h fun K hK => ?_)
        | (refine ac_region_h fun K hK => ?_; simp (disch := omega) [go_sem, *, ilt_true, ilt_false ])
        | (refine ac_draw_h mixed (by kernel_rfl) fun K hK => ?_; simp (disch := omega) [go_sem, *, wrap64_id, upd_ne, mk3_true, flatten_replicate_one, stepK_if, ilt_true, ilt_false, ile_true, ile_false, Try.ntmps6 ])
        | (apply Hide.out hK; clear hK K; try with_reducible dsimp only [thenA])
        | (apply Hide.out ht; clear ht hf Kt Kf)
        | (apply Hide.out hf; clear ht hf Kt Kf)
        | (clear hK K; apply Hide.out hK; clear hK K; try with_reducible dsimp only [thenA])
        | (clear hK K; clear hK K; apply Hide.out hK; clear hK K; try with_reducible dsimp only [thenA])
        | (with_reducible refine APureAt.call (hwd _) ?_; try simp (disch := omega) [go_sem, * ])
        | (with_reducible refine APure.call (worlds_spec) ?_; try simp (disch := omega) [go_sem, * ])
        | (refine ac_block ?_)
        | (refine ac_skip ?_; simp only [thenA, blockA])
        | (refine ac_exit ?_; simp only [thenA, blockA, if_true])
        | (with_reducible show nextK _ _ _ _ _ _ _; simp (disch := omega) [go_sem, *, wrap64_id, upd_ne, mk3_true, flatten_replicate_one, stepK_if, ilt_true, ilt_false, ile_true, ile_false, Try.ntmps6 ])
        | (refine wantK_split (fun hc => ?_) (fun hc => ?_) <;> (try simp only [Bool.not_eq_true', Bool.not_eq_false', Bool.not_eq_eq_eq_not, Bool.not_true, Bool.not_false, decide_eq_true_eq, decide_eq_false_iff_not, Int.not_lt, Int.not_le] at hc) <;> (try (exfalso; omega)) <;> (try simp (disch := omega) [go_sem, *, wrap64_id, upd_ne, mk3_true, flatten_replicate_one, stepK_if, ilt_true, ilt_false, ile_true, ile_false, Try.ntmps6 ]))
        | (refine ac_cond_h fun Kt Kf ht hf => ?_; simp (disch := omega) [go_sem, * ]; try (refine ⟨fun hc => ?_, fun hc => ?_⟩ <;> try (exfalso; omega))))
      refine ac_ret ?_
      refine ⟨by simp, _, (by simp (disch := omega) [go_sem] <;> rfl), ?_⟩
      obtain ⟨_, _, _, _, _, hf, hb0⟩ := A.out
      refine ret_id ⟨fun k hk => hf k (by omega), by simp [go_sem, below], by simp [go_sem], rfl, rfl⟩
    by_cases hm100 : 100 < w.mails.length
    · skip
      repeat' (first
        | (refine ac_seq_h fun K hK => ?_)
        | (refine ac_region_h fun K hK => ?_; simp (disch := omega) [go_sem, *, ilt_false ])
        | (refine ac_draw_h mixed (by kernel_rfl) fun K hK => ?_; simp (disch := omega) [go_sem, *, wrap64_id, upd_ne, mk3_true, flatten_replicate_one, stepK_if, ilt_true, ilt_false, ile_true, ile_false, Try.ntmps6 ])
        | (apply Hide.out hK; clear hK K; try with_reducible dsimp only [thenA])
        | (apply Hide.out ht; clear ht hf Kt Kf)
        | (apply Hide.out hf; clear ht hf Kt Kf)
        | (clear hK K; apply Hide.out hK; clear hK K; try with_reducible dsimp only [thenA])
        | (clear hK K; clear hK K; apply Hide.out hK; clear hK K; try with_reducible dsimp only [thenA])
        | (with_reducible refine APureAt.call (hwd _) ?_; try simp (disch := omega) [go_sem, * ])
        | (with_reducible refine APure.call (worlds_spec) ?_; try simp (disch := omega) [go_sem, *, wrap64_id, upd_ne, mk3_true, flatten_replicate_one, stepK_if, ilt_true, ilt_false, ile_true, ile_false, Try.ntmps6 ])
        | (refine ac_block ?_)
        | (refine ac_skip ?_; simp only [thenA, blockA])
        | (refine ac_exit ?_; simp only [thenA, blockA, if_true])
        | (with_reducible show nextK _ _ _ _ _ _ _; simp (disch := omega) [go_sem, *, wrap64_id, upd_ne, mk3_true, flatten_replicate_one, stepK_if, ilt_true, ilt_false, ile_true, ile_false, Try.ntmps6 ])
        | (refine wantK_split (fun hc => ?_) (fun hc => ?_) <;> (try simp only [Bool.not_eq_true', Bool.not_eq_false', Bool.not_eq_eq_eq_not, Bool.not_true, Bool.not_false, decide_eq_true_eq, decide_eq_false_iff_not, Int.not_lt, Int.not_le] at hc) <;> (try (exfalso; omega)) <;> (try simp (disch := omega) [go_sem, *, wrap64_id, upd_ne, mk3_true, flatten_replicate_one, stepK_if, ilt_true, ilt_false, ile_true, ile_false, Try.ntmps6 ]))
        | (refine ac_cond_h fun Kt Kf ht hf => ?_; simp (disch := omega) [go_sem, * ]; try (refine ⟨fun hc => ?_, fun hc => ?_⟩ <;> try (exfalso; omega))))
      refine APureAt.call (hX2.out _) ?_
      repeat' (first
        | (refine ac_seq_h fun K hK => ?_)
        | (refine ac_region_h fun K hK => ?_; simp (disch := omega) [go_sem, * ])
        | (refine ac_draw_h mixed (by kernel_rfl) fun K hK => ?_; simp (disch := omega) [go_sem, *, wrap64_id, upd_ne, mk3_true, flatten_replicate_one, stepK_if, ilt_true, ilt_false, ile_true, ile_false, Try.ntmps6 ])
        | (apply Hide.out hK; clear hK K; try with_reducible dsimp only [thenA])
        | (apply Hide.out ht; clear ht hf Kt Kf)
        | (apply Hide.out hf; clear ht hf Kt Kf)
        | (clear hK K; apply Hide.out hK; clear hK K; try with_reducible dsimp only [thenA])
        | (clear hK K; clear hK K; apply Hide.out hK; clear hK K; try with_reducible dsimp only [thenA])
        | (with_reducible refine APure.call (worlds_spec) ?_; try simp (disch := omega) [go_sem, * ])
        | (refine ac_block ?_)
        | (refine ac_skip ?_; simp only [thenA, blockA])
        | (refine ac_exit ?_; simp only [thenA, blockA, if_true, if_false, Nat.reduceEqDiff])
        | (with_reducible show nextK _ _ _ _ _ _ _; simp (disch := omega) [go_sem, *, ilt_true ])
        | (refine wantK_split (fun hc => ?_) (fun hc => ?_) <;> (try simp only [Bool.not_eq_true', Bool.not_eq_false', Bool.not_eq_eq_eq_not, Bool.not_true, Bool.not_false, decide_eq_true_eq, decide_eq_false_iff_not, Int.not_lt, Int.not_le] at hc) <;> (try (exfalso; omega)) <;> (try simp (disch := omega) [go_sem, *, wrap64_id, upd_ne, mk3_true, flatten_replicate_one, stepK_if, ilt_true, ilt_false, ile_true, ile_false, Try.ntmps6 ]))
        | (refine ac_cond_h fun Kt Kf ht hf => ?_; simp (disch := omega) [go_sem, * ]; try (refine ⟨fun hc => ?_, fun hc => ?_⟩ <;> try (exfalso; omega))))
      refine ac_ret ?_
      refine ⟨by simp, _, (by simp (disch := omega) [go_sem] <;> rfl), ?_⟩
      obtain ⟨_, _, _, _, _, hf, hb0⟩ := A.out
      refine ret_id ⟨fun k hk => hf k (by omega), by simp [go_sem, below], by simp [go_sem], rfl, rfl⟩
    repeat' (first
      | (refine ac_seq_h fun K hK => ?_)
      | (refine ac_region_h fun K hK => ?_; simp (disch := omega) [go_sem, *, ilt_false ])
      | (refine ac_draw_h mixed (by kernel_rfl) fun K hK => ?_; simp (disch := omega) [go_sem, *, wrap64_id, upd_ne, mk3_true, flatten_replicate_one, stepK_if, ilt_true, ilt_false, ile_true, ile_false, Try.ntmps6 ])
      | (apply Hide.out hK; clear hK K; try with_reducible dsimp only [thenA])
      | (apply Hide.out ht; clear ht hf Kt Kf)
      | (apply Hide.out hf; clear ht hf Kt Kf)
      | (clear hK K; apply Hide.out hK; clear hK K; try with_reducible dsimp only [thenA])
      | (clear hK K; clear hK K; apply Hide.out hK; clear hK K; try with_reducible dsimp only [thenA])
      | (with_reducible refine APureAt.call (hwd _) ?_; try simp (disch := omega) [go_sem, * ])
      | (with_reducible refine APure.call (worlds_spec) ?_; try simp (disch := omega) [go_sem, *, wrap64_id, upd_ne, mk3_true, flatten_replicate_one, stepK_if, ilt_true, ilt_false, ile_true, ile_false, Try.ntmps6 ])
      | (refine ac_block ?_)
      | (refine ac_skip ?_; simp only [thenA, blockA])
      | (refine ac_exit ?_; simp only [thenA, blockA, if_true])
      | (with_reducible show nextK _ _ _ _ _ _ _; simp (disch := omega) [go_sem, *, wrap64_id, upd_ne, mk3_true, flatten_replicate_one, stepK_if, ilt_true, ilt_false, ile_true, ile_false, Try.ntmps6 ])
      | (refine wantK_split (fun hc => ?_) (fun hc => ?_) <;> (try simp only [Bool.not_eq_true', Bool.not_eq_false', Bool.not_eq_eq_eq_not, Bool.not_true, Bool.not_false, decide_eq_true_eq, decide_eq_false_iff_not, Int.not_lt, Int.not_le] at hc) <;> (try (exfalso; omega)) <;> (try simp (disch := omega) [go_sem, *, wrap64_id, upd_ne, mk3_true, flatten_replicate_one, stepK_if, ilt_true, ilt_false, ile_true, ile_false, Try.ntmps6 ]))
      | (refine ac_cond_h fun Kt Kf ht hf => ?_; simp (disch := omega) [go_sem, * ]; try (refine ⟨fun hc => ?_, fun hc => ?_⟩ <;> try (exfalso; omega))))
    refine APureAt.call (hX2.out _) ?_
    clear hX2
    repeat' (first
      | (refine ac_seq_h fun K hK => ?_)
      | (refine ac_region_h fun K hK => ?_; simp (disch := omega) [go_sem, * ])
      | (refine ac_draw_h mixed (by kernel_rfl) fun K hK => ?_; simp (disch := omega) [go_sem, *, wrap64_id, upd_ne, mk3_true, flatten_replicate_one, stepK_if, ilt_true, ilt_false, ile_true, ile_false, Try.ntmps6 ])
      | (apply Hide.out hK; clear hK K; try with_reducible dsimp only [thenA])
      | (apply Hide.out ht; clear ht hf Kt Kf)
      | (apply Hide.out hf; clear ht hf Kt Kf)
      | (clear hK K; apply Hide.out hK; clear hK K; try with_reducible dsimp only [thenA])
      | (clear hK K; clear hK K; apply Hide.out hK; clear hK K; try with_reducible dsimp only [thenA])
      | (with_reducible refine APure.call (worlds_spec) ?_; try simp (disch := omega) [go_sem, *, wrap64_id, upd_ne, mk3_true, flatten_replicate_one, stepK_if, ilt_true, ilt_false, ile_true, ile_false, Try.ntmps6 ])
      | (refine ac_block ?_)
      | (refine ac_skip ?_; simp only [thenA])
      | (refine ac_exit ?_; simp only [thenA, blockA, if_true, if_false, Nat.reduceEqDiff])
      | (with_reducible show nextK _ _ _ _ _ _ _; simp (disch := omega) [go_sem, *, ilt_false ])
      | (refine wantK_split (fun hc => ?_) (fun hc => ?_) <;> (try simp only [Bool.not_eq_true', Bool.not_eq_false', Bool.not_eq_eq_eq_not, Bool.not_true, Bool.not_false, decide_eq_true_eq, decide_eq_false_iff_not, Int.not_lt, Int.not_le] at hc) <;> (try (exfalso; omega)) <;> (try simp (disch := omega) [go_sem, *, wrap64_id, upd_ne, mk3_true, flatten_replicate_one, stepK_if, ilt_true, ilt_false, ile_true, ile_false, Try.ntmps6 ]))
      | (refine ac_cond_h fun Kt Kf ht hf => ?_; simp (disch := omega) [go_sem, * ]; try (refine ⟨fun hc => ?_, fun hc => ?_⟩ <;> try (exfalso; omega))))
    have r0 : Rnd w w 0 := ⟨ww.out, rfl, fun _ _ => rfl, fun a b _ _ _ => .inr (ww.out.tk a b).k0, fun h => absurd h (by omega)⟩
    have hsz : Hide (szs w (grid w.st) = Z) := by rw [Hide, hst.out, ← hZ.out]
    clear hwd hlt hwe hx hml hm100
    replace r0 : Hide _ := r0
    refine ac_loop_wk (fun s' => ∃ (j n2 : Nat) (H2 : AHeap) (v : Wd), j ≤ Z + 1 ∧ Rnd w v j ∧ v.last ≤ 12000 + 161000 * j ∧ n1 ≤ n2 ∧ At v p (n + 1 + 8 + 8) h H2 n2 ∧ s' = ⟨121, [(0, iv .i64 S), (3, .fslc nl2 false 1 (ord.map (iv .u8))), (9, .ptr p 0), (12, iv .i64 Z), (13, iv .i64 j), (8, bv false)], H2, n2⟩) (fun z => Z + 1 - (intAt z 13).toNat) ?_ ?_
    · refine loop_start (by simp [go_sem]) (Sub.refl _) ⟨0, _, _, w, by omega, r0.out, by omega, ?_, At.mono A.out ?_, rfl⟩
      · omega
      · omega
    clear A r0
    rintro s' ⟨j, n2, H, v, hj, r, hlast, hn2, A, rfl⟩
    have vst : Hide (v.st = S) := r.st.trans hst.out
    have vok : Hide (Wok v) := r.ok
    replace A : Hide _ := A
    replace r : Hide _ := r
    by_cases hjz : j ≤ Z
    · have hlat := fun k => latest_at A.out vok.out k
      rw [vst.out] at hlat
      obtain ⟨nx, hnx⟩ : ∃ nx, Hide (nx = lat v (grid S) v.tick) := ⟨_, rfl⟩
      have nx0 : v.tick ≤ nx := by rw [hnx.out]; exact (lat_ge v _ _).1
      have nx1 : nx ≤ 1100000 := by rw [hnx.out]; exact lat_le vok.out _ _ (by have := vok.out.t1; omega)
      have nx2 := vok.out.t0
      rw [← hnx.out] at hlat
      by_cases hbig : 1048576 < nx
      · skip
        repeat' (first
          | (refine ac_seq_h fun K hK => ?_)
          | (refine ac_region_h fun K hK => ?_; simp (disch := omega) [go_sem, *, ile_true ])
          | (refine ac_draw_h mixed (by kernel_rfl) fun K hK => ?_; simp (disch := omega) [go_sem, *, wrap64_id, upd_ne, mk3_true, flatten_replicate_one, stepK_if, ilt_true, ilt_false, ile_true, ile_false, Try.ntmps6 ])
          | (apply Hide.out hK; clear hK K; try with_reducible dsimp only [thenA])
          | (apply Hide.out ht; clear ht hf Kt Kf)
          | (apply Hide.out hf; clear ht hf Kt Kf)
          | (clear hK K; apply Hide.out hK; clear hK K; try with_reducible dsimp only [thenA])
          | (clear hK K; clear hK K; apply Hide.out hK; clear hK K; try with_reducible dsimp only [thenA])
          | (with_reducible refine APureAt.call (hlat _) ?_; try simp (disch := omega) [go_sem, * ])
          | (with_reducible refine APure.call (worlds_spec) ?_; try simp (disch := omega) [go_sem, * ])
          | (refine ac_block ?_)
          | (refine ac_skip ?_; simp only [thenA])
          | (refine ac_exit ?_; simp only [thenA, blockA, if_true, if_false, Nat.reduceEqDiff])
          | (with_reducible show nextK _ _ _ _ _ _ _; simp (disch := omega) [go_sem, *, wrap64_id, upd_ne, mk3_true, flatten_replicate_one, stepK_if, ilt_true, ilt_false, ile_true, ile_false, Try.ntmps6 ])
          | (refine wantK_split (fun hc => ?_) (fun hc => ?_) <;> (try simp only [Bool.not_eq_true', Bool.not_eq_false', Bool.not_eq_eq_eq_not, Bool.not_true, Bool.not_false, decide_eq_true_eq, decide_eq_false_iff_not, Int.not_lt, Int.not_le] at hc) <;> (try (exfalso; omega)) <;> (try simp (disch := omega) [go_sem, *, wrap64_id, upd_ne, mk3_true, flatten_replicate_one, stepK_if, ilt_true, ilt_false, ile_true, ile_false, Try.ntmps6 ]))
          | (refine ac_cond_h fun Kt Kf ht hf => ?_; simp (disch := omega) [go_sem, * ]; try (refine ⟨fun hc => ?_, fun hc => ?_⟩ <;> try (exfalso; omega))))
        refine ac_ret ?_
        refine ⟨by simp, _, (by simp (disch := omega) [go_sem] <;> rfl), ?_⟩
        obtain ⟨_, _, _, _, _, hf, hb0⟩ := A.out
        refine ret_id ⟨fun k hk => hf k (by omega), by simp [go_sem, below], by simp [go_sem], rfl, rfl⟩
      repeat' (first
        | (refine ac_seq_h fun K hK => ?_)
        | (refine ac_region_h fun K hK => ?_; simp (disch := omega) [go_sem, *, ile_true ])
        | (refine ac_draw_h mixed (by kernel_rfl) fun K hK => ?_; simp (disch := omega) [go_sem, *, wrap64_id, upd_ne, mk3_true, flatten_replicate_one, stepK_if, ilt_true, ilt_false, ile_true, ile_false, Try.ntmps6 ])
        | (apply Hide.out hK; clear hK K; try with_reducible dsimp only [thenA])
        | (apply Hide.out ht; clear ht hf Kt Kf)
        | (apply Hide.out hf; clear ht hf Kt Kf)
        | (clear hK K; apply Hide.out hK; clear hK K; try with_reducible dsimp only [thenA])
        | (clear hK K; clear hK K; apply Hide.out hK; clear hK K; try with_reducible dsimp only [thenA])
        | (with_reducible refine APureAt.call (hlat _) ?_; try simp (disch := omega) [go_sem, * ])
        | (refine ac_block ?_)
        | (refine ac_skip ?_; simp only [thenA])
        | (refine ac_exit ?_; simp only [thenA, blockA, if_true, if_false, Nat.reduceEqDiff])
        | (with_reducible show nextK _ _ _ _ _ _ _; simp (disch := omega) [go_sem, *, wrap64_id, upd_ne, mk3_true, flatten_replicate_one, stepK_if, ilt_true, ilt_false, ile_true, ile_false, Try.ntmps6 ])
        | (refine wantK_split (fun hc => ?_) (fun hc => ?_) <;> (try simp only [Bool.not_eq_true', Bool.not_eq_false', Bool.not_eq_eq_eq_not, Bool.not_true, Bool.not_false, decide_eq_true_eq, decide_eq_false_iff_not, Int.not_lt, Int.not_le] at hc) <;> (try (exfalso; omega)) <;> (try simp (disch := omega) [go_sem, *, wrap64_id, upd_ne, mk3_true, flatten_replicate_one, stepK_if, ilt_true, ilt_false, ile_true, ile_false, Try.ntmps6 ]))
        | (refine ac_cond_h fun Kt Kf ht hf => ?_; simp (disch := omega) [go_sem, * ]; try (refine ⟨fun hc => ?_, fun hc => ?_⟩ <;> try (exfalso; omega))))
      refine settle_at A.out (by omega) vok.out (by omega) nl2 ord hord.out (by omega) _ (fun v1 k1 H3 n3 d1 e1 hl1 hn3 A1 => ?_)
      have v1ok : Hide (Wok v1) := d1.ok vok.out
      have hdo : Hide (doW v1 ⟨2, 0, 0, nx, ByteArray.empty⟩ = ((timeW v1 nx).1, 0)) := by
        rw [Hide, doW_lean (by simp [lean])]
        show timeW v1 nx = _
        rw [timeW, if_neg]
        rw [(d1.go).1.tick, Wl.within_iff.2 ⟨nx0, by omega⟩]; simp
      have hdl := (doW_last v1ok.out ⟨2, 0, 0, nx, ByteArray.empty⟩).1
      rw [hdo.out] at hdl
      simp only at hdl
      have v2ok : Hide (Wok (timeW v1 nx).1) := v1ok.out.time nx
      replace d1 : Hide _ := d1
      replace e1 : Hide _ := e1
      replace A1 : Hide _ := A1
      clear hlat
      repeat' (first
        | (refine ac_seq_h fun K hK => ?_)
        | (refine ac_region_h fun K hK => ?_; simp (disch := omega) [go_sem, *, wrap64_id, upd_ne, mk3_true, flatten_replicate_one, stepK_if, ilt_true, ilt_false, ile_true, ile_false, Try.ntmps6])
        | (refine ac_draw_h mixed (by kernel_rfl) fun K hK => ?_; simp (disch := omega) [go_sem, *, wrap64_id, upd_ne, mk3_true, flatten_replicate_one, stepK_if, ilt_true, ilt_false, ile_true, ile_false, Try.ntmps6])
        | (apply Hide.out hK; clear hK K; try with_reducible dsimp only [thenA])
        | (apply Hide.out ht; clear ht hf Kt Kf)
        | (apply Hide.out hf; clear ht hf Kt Kf)
        | (clear hK K; apply Hide.out hK; clear hK K; try with_reducible dsimp only [thenA])
        | (clear hK K; clear hK K; apply Hide.out hK; clear hK K; try with_reducible dsimp only [thenA])
        | (refine ac_block ?_)
        | (refine ac_skip ?_; simp only [thenA, blockA])
        | (refine ac_exit ?_; simp only [thenA, blockA, if_true, if_false, Nat.reduceEqDiff])
        | (with_reducible show nextK _ _ _ _ _ _ _; simp (disch := omega) [go_sem, *])
        | (refine wantK_split (fun hc => ?_) (fun hc => ?_) <;> (try simp only [Bool.not_eq_true', Bool.not_eq_false', Bool.not_eq_eq_eq_not, Bool.not_true, Bool.not_false, decide_eq_true_eq, decide_eq_false_iff_not, Int.not_lt, Int.not_le] at hc) <;> (try (exfalso; omega)) <;> (try simp (disch := omega) [go_sem, *, wrap64_id, upd_ne, mk3_true, flatten_replicate_one, stepK_if, ilt_true, ilt_false, ile_true, ile_false, Try.ntmps6]))
        | (refine ac_cond_h fun Kt Kf ht hf => ?_; simp (disch := omega) [go_sem, *, wrap64_id, upd_ne, mk3_true, flatten_replicate_one, stepK_if, ilt_true, ilt_false, ile_true, ile_false, Try.ntmps6]; try (refine ⟨fun hc => ?_, fun hc => ?_⟩ <;> try (exfalso; omega))))
      refine At.do A1.out (by omega) v1ok.out (by omega) ⟨2, 0, 0, nx, ByteArray.empty⟩ _ (fun H4 n4 hn4 A2 => ?_)
      rw [hdo.out] at A2 ⊢
      simp only at A2 ⊢
      obtain ⟨v2, hv2⟩ : ∃ v2, Hide (v2 = (timeW v1 nx).1) := ⟨_, rfl⟩
      rw [← hv2.out] at A2 v2ok hdl
      replace A2 : Hide _ := A2
      repeat' (first
        | (refine ac_seq_h fun K hK => ?_)
        | (refine ac_region_h fun K hK => ?_; simp (disch := omega) [go_sem, *, wrap64_id, upd_ne, mk3_true, flatten_replicate_one, stepK_if, ilt_true, ilt_false, ile_true, ile_false, Try.ntmps6])
        | (refine ac_draw_h mixed (by kernel_rfl) fun K hK => ?_; simp (disch := omega) [go_sem, *, wrap64_id, upd_ne, mk3_true, flatten_replicate_one, stepK_if, ilt_true, ilt_false, ile_true, ile_false, Try.ntmps6])
        | (apply Hide.out hK; clear hK K; try with_reducible dsimp only [thenA])
        | (apply Hide.out ht; clear ht hf Kt Kf)
        | (apply Hide.out hf; clear ht hf Kt Kf)
        | (clear hK K; apply Hide.out hK; clear hK K; try with_reducible dsimp only [thenA])
        | (clear hK K; clear hK K; apply Hide.out hK; clear hK K; try with_reducible dsimp only [thenA])
        | (refine ac_block ?_)
        | (refine ac_skip ?_; simp only [thenA, blockA])
        | (refine ac_exit ?_; simp only [thenA, blockA, if_true, if_false, Nat.reduceEqDiff])
        | (with_reducible show nextK _ _ _ _ _ _ _; simp (disch := omega) [go_sem, *])
        | (refine wantK_split (fun hc => ?_) (fun hc => ?_) <;> (try simp only [Bool.not_eq_true', Bool.not_eq_false', Bool.not_eq_eq_eq_not, Bool.not_true, Bool.not_false, decide_eq_true_eq, decide_eq_false_iff_not, Int.not_lt, Int.not_le] at hc) <;> (try (exfalso; omega)) <;> (try simp (disch := omega) [go_sem, *, wrap64_id, upd_ne, mk3_true, flatten_replicate_one, stepK_if, ilt_true, ilt_false, ile_true, ile_false, Try.ntmps6]))
        | (refine ac_cond_h fun Kt Kf ht hf => ?_; simp (disch := omega) [go_sem, *, wrap64_id, upd_ne, mk3_true, flatten_replicate_one, stepK_if, ilt_true, ilt_false, ile_true, ile_false, Try.ntmps6]; try (refine ⟨fun hc => ?_, fun hc => ?_⟩ <;> try (exfalso; omega))))
      refine settle_at A2.out (by omega) v2ok.out (by omega) nl2 ord hord.out (by omega) _ (fun v3 k3 H5 n5 d3 e3 hl3 hn5 A3 => ?_)
      rw [hv2.out] at d3
      have r3 := r.out.next (by rw [hsz.out]; omega) d1.out e1.out (by rw [vst.out]; exact hnx.out) (by omega) d3 e3
      replace d3 : Hide _ := d3
      replace e3 : Hide _ := e3
      replace r3 : Hide _ := r3
      replace A3 : Hide _ := A3
      repeat' (first
        | (refine ac_seq_h fun K hK => ?_)
        | (refine ac_region_h fun K hK => ?_; simp (disch := omega) [go_sem, *, wrap64_id])
        | (refine ac_draw_h mixed (by kernel_rfl) fun K hK => ?_; simp (disch := omega) [go_sem, *, wrap64_id, upd_ne, mk3_true, flatten_replicate_one, stepK_if, ilt_true, ilt_false, ile_true, ile_false, Try.ntmps6])
        | (apply Hide.out hK; clear hK K; try with_reducible dsimp only [thenA])
        | (apply Hide.out ht; clear ht hf Kt Kf)
        | (apply Hide.out hf; clear ht hf Kt Kf)
        | (clear hK K; apply Hide.out hK; clear hK K; try with_reducible dsimp only [thenA])
        | (clear hK K; clear hK K; apply Hide.out hK; clear hK K; try with_reducible dsimp only [thenA])
        | (refine ac_block ?_)
        | (refine ac_skip ?_; simp only [thenA, blockA])
        | (refine ac_exit ?_; simp only [thenA, blockA, if_true, if_false, Nat.reduceEqDiff])
        | (with_reducible show nextK _ _ _ _ _ _ _; simp (disch := omega) [go_sem, *])
        | (refine wantK_split (fun hc => ?_) (fun hc => ?_) <;> (try simp only [Bool.not_eq_true', Bool.not_eq_false', Bool.not_eq_eq_eq_not, Bool.not_true, Bool.not_false, decide_eq_true_eq, decide_eq_false_iff_not, Int.not_lt, Int.not_le] at hc) <;> (try (exfalso; omega)) <;> (try simp (disch := omega) [go_sem, *, wrap64_id, upd_ne, mk3_true, flatten_replicate_one, stepK_if, ilt_true, ilt_false, ile_true, ile_false, Try.ntmps6]))
        | (refine ac_cond_h fun Kt Kf ht hf => ?_; simp (disch := omega) [go_sem, *]; try (refine ⟨fun hc => ?_, fun hc => ?_⟩ <;> try (exfalso; omega))))
      refine round_end (by simp [go_sem]) (Sub.refl _) ⟨j + 1, _, _, v3, by omega, r3.out, by omega, ?_, At.mono A3.out ?_, rfl⟩ (by simp [intAt, go_sem]; omega)
      · omega
      · omega
    · have hjz2 : j = Z + 1 := by omega
      have hfin : Hide (∀ a b : Nat, a < S → b < S → openW v a b = 0 ∧ sameL (saidW v a b) (heardW v b a) = true) := fun a b ha hb2 => r.out.final (by rw [hsz.out]; omega) (by rw [hst.out]; exact ha) (by rw [hst.out]; exact hb2)
      have hnom : v.mails = [] := r.out.mails (by omega)
      replace hnom : Hide _ := hnom
      replace hjz2 : Hide _ := hjz2
      repeat' (first
        | (refine ac_seq_h fun K hK => ?_)
        | (refine ac_region_h fun K hK => ?_; simp (disch := omega) [go_sem, *, ile_false])
        | (refine ac_draw_h mixed (by kernel_rfl) fun K hK => ?_; simp (disch := omega) [go_sem, *, wrap64_id, upd_ne, mk3_true, flatten_replicate_one, stepK_if, ilt_true, ilt_false, ile_true, ile_false, Try.ntmps6])
        | (apply Hide.out hK; clear hK K; try with_reducible dsimp only [thenA])
        | (apply Hide.out ht; clear ht hf Kt Kf)
        | (apply Hide.out hf; clear ht hf Kt Kf)
        | (clear hK K; apply Hide.out hK; clear hK K; try with_reducible dsimp only [thenA])
        | (clear hK K; clear hK K; apply Hide.out hK; clear hK K; try with_reducible dsimp only [thenA])
        | (refine ac_block ?_)
        | (refine ac_skip ?_; simp only [thenA, blockA])
        | (refine ac_exit ?_; simp only [thenA, blockA, if_true])
        | (with_reducible show nextK _ _ _ _ _ _ _; simp (disch := omega) [go_sem, *, wrap64_id, upd_ne, mk3_true, flatten_replicate_one, stepK_if, ilt_true, ilt_false, ile_true, ile_false, Try.ntmps6])
        | (refine wantK_split (fun hc => ?_) (fun hc => ?_) <;> (try simp only [Bool.not_eq_true', Bool.not_eq_false', Bool.not_eq_eq_eq_not, Bool.not_true, Bool.not_false, decide_eq_true_eq, decide_eq_false_iff_not, Int.not_lt, Int.not_le] at hc) <;> (try (exfalso; omega)) <;> (try simp (disch := omega) [go_sem, *, wrap64_id, upd_ne, mk3_true, flatten_replicate_one, stepK_if, ilt_true, ilt_false, ile_true, ile_false, Try.ntmps6]))
        | (refine ac_cond_h fun Kt Kf ht hf => ?_; simp (disch := omega) [go_sem, *]; try (refine ⟨fun hc => ?_, fun hc => ?_⟩ <;> try (exfalso; omega))))
      refine ac_loop_wk (fun s' => ∃ (a n3 : Nat), n2 ≤ n3 ∧ a ≤ S ∧ s' = ⟨121, [(0, iv .i64 S), (9, .ptr p 0), (8, bv false), (15, iv .i64 a)], H, n3⟩) (fun z => S - (intAt z 15).toNat) ?_ ?_
      · refine loop_start (by simp [go_sem]) (Sub.refl _) ⟨0, _, ?_, Nat.zero_le _, rfl⟩
        omega
      rintro s' ⟨a, n3, hn3, ha, rfl⟩
      by_cases hlta : a < S
      · skip
        repeat' (first
          | (refine ac_seq_h fun K hK => ?_)
          | (refine ac_region_h fun K hK => ?_; simp (disch := omega) [go_sem, *, ilt_true])
          | (refine ac_draw_h mixed (by kernel_rfl) fun K hK => ?_; simp (disch := omega) [go_sem, *, wrap64_id, upd_ne, mk3_true, flatten_replicate_one, stepK_if, ilt_true, ilt_false, ile_true, ile_false, Try.ntmps6])
          | (apply Hide.out hK; clear hK K; try with_reducible dsimp only [thenA])
          | (apply Hide.out ht; clear ht hf Kt Kf)
          | (apply Hide.out hf; clear ht hf Kt Kf)
          | (clear hK K; apply Hide.out hK; clear hK K; try with_reducible dsimp only [thenA])
          | (clear hK K; clear hK K; apply Hide.out hK; clear hK K; try with_reducible dsimp only [thenA])
          | (refine ac_block ?_)
          | (refine ac_skip ?_; simp only [thenA])
          | (refine ac_exit ?_; simp only [thenA, blockA, if_true, if_false, Nat.reduceEqDiff])
          | (with_reducible show nextK _ _ _ _ _ _ _; simp (disch := omega) [go_sem, *, wrap64_id, upd_ne, mk3_true, flatten_replicate_one, stepK_if, ilt_true, ilt_false, ile_true, ile_false, Try.ntmps6])
          | (refine wantK_split (fun hc => ?_) (fun hc => ?_) <;> (try simp only [Bool.not_eq_true', Bool.not_eq_false', Bool.not_eq_eq_eq_not, Bool.not_true, Bool.not_false, decide_eq_true_eq, decide_eq_false_iff_not, Int.not_lt, Int.not_le] at hc) <;> (try (exfalso; omega)) <;> (try simp (disch := omega) [go_sem, *, wrap64_id, upd_ne, mk3_true, flatten_replicate_one, stepK_if, ilt_true, ilt_false, ile_true, ile_false, Try.ntmps6]))
          | (refine ac_cond_h fun Kt Kf ht hf => ?_; simp (disch := omega) [go_sem, *]; try (refine ⟨fun hc => ?_, fun hc => ?_⟩ <;> try (exfalso; omega))))
        refine ac_loop_wk (fun s' => ∃ (b n4 : Nat), n2 ≤ n4 ∧ b ≤ S ∧ s' = ⟨121, [(0, iv .i64 S), (9, .ptr p 0), (8, bv false), (15, iv .i64 a), (16, iv .i64 b)], H, n4⟩) (fun z => S - (intAt z 16).toNat) ?_ ?_
        · refine loop_start (by simp [go_sem]) (Sub.refl _) ⟨0, _, ?_, Nat.zero_le _, rfl⟩
          omega
        rintro s' ⟨b, n4, hn4, hb2, rfl⟩
        by_cases hltb : b < S
        · obtain ⟨g1, g2⟩ := hfin.out a b hlta hltb
          have hop := fun k => At.open A.out vok.out (a : Int) (b : Int) k
          rw [g1] at hop
          obtain ⟨X, hX1, hX2⟩ := At.said A.out vok.out (a : Int) (b : Int)
          obtain ⟨Y, hY1, hY2⟩ := At.heard A.out vok.out (b : Int) (a : Int)
          obtain ⟨x1, x2, x3, rfl, hx⟩ := hX1
          obtain ⟨y1, y2, y3, rfl, hy⟩ := hY1
          obtain ⟨_, _, _, _, l1, l2⟩ := once_law vok.out (a : Int) (b : Int)
          have hsame := same_spec (saidW v a b) (heardW v b a) x1 x2 y1 y2 x3 y3 hx hy l1 l2
          rw [g2] at hsame
          generalize saidW v a b = X at *
          generalize heardW v b a = Y at *
          replace hX2 : Hide _ := hX2
          replace hY2 : Hide _ := hY2
          replace hop : Hide _ := hop
          replace hsame : Hide _ := hsame
          replace hx : Hide _ := hx
          replace hy : Hide _ := hy
          clear g1 g2 l1 l2
          repeat' (first
            | (refine ac_seq_h fun K hK => ?_)
            | (refine ac_region_h fun K hK => ?_; simp (disch := omega) [go_sem, *, ilt_true])
            | (refine ac_draw_h mixed (by kernel_rfl) fun K hK => ?_; simp (disch := omega) [go_sem, *, wrap64_id, upd_ne, mk3_true, flatten_replicate_one, stepK_if, ilt_true, ilt_false, ile_true, ile_false, Try.ntmps6])
            | (apply Hide.out hK; clear hK K; try with_reducible dsimp only [thenA])
            | (apply Hide.out ht; clear ht hf Kt Kf)
            | (apply Hide.out hf; clear ht hf Kt Kf)
            | (clear hK K; apply Hide.out hK; clear hK K; try with_reducible dsimp only [thenA])
            | (clear hK K; clear hK K; apply Hide.out hK; clear hK K; try with_reducible dsimp only [thenA])
            | (refine ac_block ?_)
            | (refine ac_skip ?_; simp only [thenA])
            | (refine ac_exit ?_; simp only [thenA, blockA, if_true, if_false, Nat.reduceEqDiff])
            | (with_reducible show nextK _ _ _ _ _ _ _; simp (disch := omega) [go_sem, *, wrap64_id, upd_ne, mk3_true, flatten_replicate_one, stepK_if, ilt_true, ilt_false, ile_true, ile_false, Try.ntmps6])
            | (refine wantK_split (fun hc => ?_) (fun hc => ?_) <;> (try simp only [Bool.not_eq_true', Bool.not_eq_false', Bool.not_eq_eq_eq_not, Bool.not_true, Bool.not_false, decide_eq_true_eq, decide_eq_false_iff_not, Int.not_lt, Int.not_le] at hc) <;> (try (exfalso; omega)) <;> (try simp (disch := omega) [go_sem, *, wrap64_id, upd_ne, mk3_true, flatten_replicate_one, stepK_if, ilt_true, ilt_false, ile_true, ile_false, Try.ntmps6]))
            | (refine ac_cond_h fun Kt Kf ht hf => ?_; simp (disch := omega) [go_sem, *]; try (refine ⟨fun hc => ?_, fun hc => ?_⟩ <;> try (exfalso; omega))))
          refine APureAt.call (hop.out _) ?_
          repeat' (first
            | (refine ac_seq_h fun K hK => ?_)
            | (refine ac_region_h fun K hK => ?_; simp (disch := omega) [go_sem, *, wrap64_id, upd_ne, mk3_true, flatten_replicate_one, stepK_if, ilt_true, ilt_false, ile_true, ile_false, Try.ntmps6])
            | (refine ac_draw_h mixed (by kernel_rfl) fun K hK => ?_; simp (disch := omega) [go_sem, *, wrap64_id, upd_ne, mk3_true, flatten_replicate_one, stepK_if, ilt_true, ilt_false, ile_true, ile_false, Try.ntmps6])
            | (apply Hide.out hK; clear hK K; try with_reducible dsimp only [thenA])
            | (apply Hide.out ht; clear ht hf Kt Kf)
            | (apply Hide.out hf; clear ht hf Kt Kf)
            | (clear hK K; apply Hide.out hK; clear hK K; try with_reducible dsimp only [thenA])
            | (clear hK K; clear hK K; apply Hide.out hK; clear hK K; try with_reducible dsimp only [thenA])
            | (refine ac_block ?_)
            | (refine ac_skip ?_; simp only [thenA, blockA])
            | (refine ac_exit ?_; simp only [thenA, blockA, if_true, if_false, Nat.reduceEqDiff])
            | (with_reducible show nextK _ _ _ _ _ _ _; simp (disch := omega) [go_sem, *])
            | (refine wantK_split (fun hc => ?_) (fun hc => ?_) <;> (try simp only [Bool.not_eq_true', Bool.not_eq_false', Bool.not_eq_eq_eq_not, Bool.not_true, Bool.not_false, decide_eq_true_eq, decide_eq_false_iff_not, Int.not_lt, Int.not_le] at hc) <;> (try (exfalso; omega)) <;> (try simp (disch := omega) [go_sem, *, wrap64_id, upd_ne, mk3_true, flatten_replicate_one, stepK_if, ilt_true, ilt_false, ile_true, ile_false, Try.ntmps6]))
            | (refine ac_cond_h fun Kt Kf ht hf => ?_; simp (disch := omega) [go_sem, *, wrap64_id, upd_ne, mk3_true, flatten_replicate_one, stepK_if, ilt_true, ilt_false, ile_true, ile_false, Try.ntmps6]; try (refine ⟨fun hc => ?_, fun hc => ?_⟩ <;> try (exfalso; omega))))
          refine APureAt.call (hX2.out _) ?_
          repeat' (first
            | (refine ac_seq_h fun K hK => ?_)
            | (refine ac_region_h fun K hK => ?_; simp (disch := omega) [go_sem, *, wrap64_id, upd_ne, mk3_true, flatten_replicate_one, stepK_if, ilt_true, ilt_false, ile_true, ile_false, Try.ntmps6])
            | (refine ac_draw_h mixed (by kernel_rfl) fun K hK => ?_; simp (disch := omega) [go_sem, *, wrap64_id, upd_ne, mk3_true, flatten_replicate_one, stepK_if, ilt_true, ilt_false, ile_true, ile_false, Try.ntmps6])
            | (apply Hide.out hK; clear hK K; try with_reducible dsimp only [thenA])
            | (apply Hide.out ht; clear ht hf Kt Kf)
            | (apply Hide.out hf; clear ht hf Kt Kf)
            | (clear hK K; apply Hide.out hK; clear hK K; try with_reducible dsimp only [thenA])
            | (clear hK K; clear hK K; apply Hide.out hK; clear hK K; try with_reducible dsimp only [thenA])
            | (refine ac_block ?_)
            | (refine ac_skip ?_; simp only [thenA, blockA])
            | (refine ac_exit ?_; simp only [thenA, blockA, if_true, if_false, Nat.reduceEqDiff])
            | (with_reducible show nextK _ _ _ _ _ _ _; simp (disch := omega) [go_sem, *])
            | (refine wantK_split (fun hc => ?_) (fun hc => ?_) <;> (try simp only [Bool.not_eq_true', Bool.not_eq_false', Bool.not_eq_eq_eq_not, Bool.not_true, Bool.not_false, decide_eq_true_eq, decide_eq_false_iff_not, Int.not_lt, Int.not_le] at hc) <;> (try (exfalso; omega)) <;> (try simp (disch := omega) [go_sem, *, wrap64_id, upd_ne, mk3_true, flatten_replicate_one, stepK_if, ilt_true, ilt_false, ile_true, ile_false, Try.ntmps6]))
            | (refine ac_cond_h fun Kt Kf ht hf => ?_; simp (disch := omega) [go_sem, *, wrap64_id, upd_ne, mk3_true, flatten_replicate_one, stepK_if, ilt_true, ilt_false, ile_true, ile_false, Try.ntmps6]; try (refine ⟨fun hc => ?_, fun hc => ?_⟩ <;> try (exfalso; omega))))
          refine APureAt.call (hY2.out _) ?_
          repeat' (first
            | (refine ac_seq_h fun K hK => ?_)
            | (refine ac_region_h fun K hK => ?_; simp (disch := omega) [go_sem, *, wrap64_id, upd_ne, mk3_true, flatten_replicate_one, stepK_if, ilt_true, ilt_false, ile_true, ile_false, Try.ntmps6])
            | (refine ac_draw_h mixed (by kernel_rfl) fun K hK => ?_; simp (disch := omega) [go_sem, *, wrap64_id, upd_ne, mk3_true, flatten_replicate_one, stepK_if, ilt_true, ilt_false, ile_true, ile_false, Try.ntmps6])
            | (apply Hide.out hK; clear hK K; try with_reducible dsimp only [thenA])
            | (apply Hide.out ht; clear ht hf Kt Kf)
            | (apply Hide.out hf; clear ht hf Kt Kf)
            | (clear hK K; apply Hide.out hK; clear hK K; try with_reducible dsimp only [thenA])
            | (clear hK K; clear hK K; apply Hide.out hK; clear hK K; try with_reducible dsimp only [thenA])
            | (refine ac_block ?_)
            | (refine ac_skip ?_; simp only [thenA, blockA])
            | (refine ac_exit ?_; simp only [thenA, blockA, if_true, if_false, Nat.reduceEqDiff])
            | (with_reducible show nextK _ _ _ _ _ _ _; simp (disch := omega) [go_sem, *])
            | (refine wantK_split (fun hc => ?_) (fun hc => ?_) <;> (try simp only [Bool.not_eq_true', Bool.not_eq_false', Bool.not_eq_eq_eq_not, Bool.not_true, Bool.not_false, decide_eq_true_eq, decide_eq_false_iff_not, Int.not_lt, Int.not_le] at hc) <;> (try (exfalso; omega)) <;> (try simp (disch := omega) [go_sem, *, wrap64_id, upd_ne, mk3_true, flatten_replicate_one, stepK_if, ilt_true, ilt_false, ile_true, ile_false, Try.ntmps6]))
            | (refine ac_cond_h fun Kt Kf ht hf => ?_; simp (disch := omega) [go_sem, *, wrap64_id, upd_ne, mk3_true, flatten_replicate_one, stepK_if, ilt_true, ilt_false, ile_true, ile_false, Try.ntmps6]; try (refine ⟨fun hc => ?_, fun hc => ?_⟩ <;> try (exfalso; omega))))
          refine APure.call hsame.out ?_
          repeat' (first
            | (refine ac_seq_h fun K hK => ?_)
            | (refine ac_region_h fun K hK => ?_; simp (disch := omega) [go_sem, *, wrap64_id])
            | (refine ac_draw_h mixed (by kernel_rfl) fun K hK => ?_; simp (disch := omega) [go_sem, *, wrap64_id, upd_ne, mk3_true, flatten_replicate_one, stepK_if, ilt_true, ilt_false, ile_true, ile_false, Try.ntmps6])
            | (apply Hide.out hK; clear hK K; try with_reducible dsimp only [thenA])
            | (apply Hide.out ht; clear ht hf Kt Kf)
            | (apply Hide.out hf; clear ht hf Kt Kf)
            | (clear hK K; apply Hide.out hK; clear hK K; try with_reducible dsimp only [thenA])
            | (clear hK K; clear hK K; apply Hide.out hK; clear hK K; try with_reducible dsimp only [thenA])
            | (refine ac_block ?_)
            | (refine ac_skip ?_; simp only [thenA, blockA])
            | (refine ac_exit ?_; simp only [thenA, blockA, if_true, if_false, Nat.reduceEqDiff])
            | (with_reducible show nextK _ _ _ _ _ _ _; simp (disch := omega) [go_sem, *])
            | (refine wantK_split (fun hc => ?_) (fun hc => ?_) <;> (try simp only [Bool.not_eq_true', Bool.not_eq_false', Bool.not_eq_eq_eq_not, Bool.not_true, Bool.not_false, decide_eq_true_eq, decide_eq_false_iff_not, Int.not_lt, Int.not_le] at hc) <;> (try (exfalso; omega)) <;> (try simp (disch := omega) [go_sem, *, wrap64_id, upd_ne, mk3_true, flatten_replicate_one, stepK_if, ilt_true, ilt_false, ile_true, ile_false, Try.ntmps6]))
            | (refine ac_cond_h fun Kt Kf ht hf => ?_; simp (disch := omega) [go_sem, *]; try (refine ⟨fun hc => ?_, fun hc => ?_⟩ <;> try (exfalso; omega))))
          refine round_end (by simp [go_sem]) (Sub.refl _) ⟨b + 1, _, ?_, by omega, rfl⟩ (by simp [intAt, go_sem]; omega)
          omega
        · skip
          repeat' (first
            | (refine ac_seq_h fun K hK => ?_)
            | (refine ac_region_h fun K hK => ?_; simp (disch := omega) [go_sem, *, wrap64_id, ilt_false])
            | (refine ac_draw_h mixed (by kernel_rfl) fun K hK => ?_; simp (disch := omega) [go_sem, *, wrap64_id, upd_ne, mk3_true, flatten_replicate_one, stepK_if, ilt_true, ilt_false, ile_true, ile_false, Try.ntmps6])
            | (apply Hide.out hK; clear hK K; try with_reducible dsimp only [thenA])
            | (apply Hide.out ht; clear ht hf Kt Kf)
            | (apply Hide.out hf; clear ht hf Kt Kf)
            | (clear hK K; apply Hide.out hK; clear hK K; try with_reducible dsimp only [thenA])
            | (clear hK K; clear hK K; apply Hide.out hK; clear hK K; try with_reducible dsimp only [thenA])
            | (refine ac_block ?_)
            | (refine ac_skip ?_; simp only [thenA, blockA])
            | (refine ac_exit ?_; simp only [thenA, blockA, if_true, if_false, Nat.reduceEqDiff])
            | (with_reducible show nextK _ _ _ _ _ _ _; simp (disch := omega) [go_sem, *, wrap64_id, upd_ne, mk3_true, flatten_replicate_one, stepK_if, ilt_true, ilt_false, ile_true, ile_false, Try.ntmps6])
            | (refine wantK_split (fun hc => ?_) (fun hc => ?_) <;> (try simp only [Bool.not_eq_true', Bool.not_eq_false', Bool.not_eq_eq_eq_not, Bool.not_true, Bool.not_false, decide_eq_true_eq, decide_eq_false_iff_not, Int.not_lt, Int.not_le] at hc) <;> (try (exfalso; omega)) <;> (try simp (disch := omega) [go_sem, *, wrap64_id, upd_ne, mk3_true, flatten_replicate_one, stepK_if, ilt_true, ilt_false, ile_true, ile_false, Try.ntmps6]))
            | (refine ac_cond_h fun Kt Kf ht hf => ?_; simp (disch := omega) [go_sem, *]; try (refine ⟨fun hc => ?_, fun hc => ?_⟩ <;> try (exfalso; omega))))
          refine round_end (by simp [go_sem]) (Sub.refl _) ⟨a + 1, _, ?_, by omega, rfl⟩ (by simp [intAt, go_sem]; omega)
          omega
      · obtain ⟨X, hX1, hX2⟩ := At.mails A.out vok.out
        rw [hnom.out] at hX1
        obtain ⟨x1, x2, x3, rfl, hx⟩ := hX1
        replace hX2 : Hide _ := hX2
        replace hx : Hide _ := hx
        repeat' (first
          | (refine ac_seq_h fun K hK => ?_)
          | (refine ac_region_h fun K hK => ?_; simp (disch := omega) [go_sem, *, ilt_false])
          | (refine ac_draw_h mixed (by kernel_rfl) fun K hK => ?_; simp (disch := omega) [go_sem, *, wrap64_id, upd_ne, mk3_true, flatten_replicate_one, stepK_if, ilt_true, ilt_false, ile_true, ile_false, Try.ntmps6])
          | (apply Hide.out hK; clear hK K; try with_reducible dsimp only [thenA])
          | (apply Hide.out ht; clear ht hf Kt Kf)
          | (apply Hide.out hf; clear ht hf Kt Kf)
          | (clear hK K; apply Hide.out hK; clear hK K; try with_reducible dsimp only [thenA])
          | (clear hK K; clear hK K; apply Hide.out hK; clear hK K; try with_reducible dsimp only [thenA])
          | (refine ac_block ?_)
          | (refine ac_skip ?_; simp only [thenA, blockA])
          | (refine ac_exit ?_; simp only [thenA, blockA, if_true])
          | (with_reducible show nextK _ _ _ _ _ _ _; simp (disch := omega) [go_sem, *, wrap64_id, upd_ne, mk3_true, flatten_replicate_one, stepK_if, ilt_true, ilt_false, ile_true, ile_false, Try.ntmps6])
          | (refine wantK_split (fun hc => ?_) (fun hc => ?_) <;> (try simp only [Bool.not_eq_true', Bool.not_eq_false', Bool.not_eq_eq_eq_not, Bool.not_true, Bool.not_false, decide_eq_true_eq, decide_eq_false_iff_not, Int.not_lt, Int.not_le] at hc) <;> (try (exfalso; omega)) <;> (try simp (disch := omega) [go_sem, *, wrap64_id, upd_ne, mk3_true, flatten_replicate_one, stepK_if, ilt_true, ilt_false, ile_true, ile_false, Try.ntmps6]))
          | (refine ac_cond_h fun Kt Kf ht hf => ?_; simp (disch := omega) [go_sem, *]; try (refine ⟨fun hc => ?_, fun hc => ?_⟩ <;> try (exfalso; omega))))
        refine APure.call worlds_spec ?_
        repeat' (first
          | (refine ac_seq_h fun K hK => ?_)
          | (refine ac_region_h fun K hK => ?_; simp (disch := omega) [go_sem, *, wrap64_id, upd_ne, mk3_true, flatten_replicate_one, stepK_if, ilt_true, ilt_false, ile_true, ile_false, Try.ntmps6])
          | (refine ac_draw_h mixed (by kernel_rfl) fun K hK => ?_; simp (disch := omega) [go_sem, *, wrap64_id, upd_ne, mk3_true, flatten_replicate_one, stepK_if, ilt_true, ilt_false, ile_true, ile_false, Try.ntmps6])
          | (apply Hide.out hK; clear hK K; try with_reducible dsimp only [thenA])
          | (apply Hide.out ht; clear ht hf Kt Kf)
          | (apply Hide.out hf; clear ht hf Kt Kf)
          | (clear hK K; apply Hide.out hK; clear hK K; try with_reducible dsimp only [thenA])
          | (clear hK K; clear hK K; apply Hide.out hK; clear hK K; try with_reducible dsimp only [thenA])
          | (refine ac_block ?_)
          | (refine ac_skip ?_; simp only [thenA, blockA])
          | (refine ac_exit ?_; simp only [thenA, blockA, if_true, if_false, Nat.reduceEqDiff])
          | (with_reducible show nextK _ _ _ _ _ _ _; simp (disch := omega) [go_sem, *])
          | (refine wantK_split (fun hc => ?_) (fun hc => ?_) <;> (try simp only [Bool.not_eq_true', Bool.not_eq_false', Bool.not_eq_eq_eq_not, Bool.not_true, Bool.not_false, decide_eq_true_eq, decide_eq_false_iff_not, Int.not_lt, Int.not_le] at hc) <;> (try (exfalso; omega)) <;> (try simp (disch := omega) [go_sem, *, wrap64_id, upd_ne, mk3_true, flatten_replicate_one, stepK_if, ilt_true, ilt_false, ile_true, ile_false, Try.ntmps6]))
          | (refine ac_cond_h fun Kt Kf ht hf => ?_; simp (disch := omega) [go_sem, *, wrap64_id, upd_ne, mk3_true, flatten_replicate_one, stepK_if, ilt_true, ilt_false, ile_true, ile_false, Try.ntmps6]; try (refine ⟨fun hc => ?_, fun hc => ?_⟩ <;> try (exfalso; omega))))
        refine APureAt.call (hX2.out _) ?_
        repeat' (first
          | (refine ac_seq_h fun K hK => ?_)
          | (refine ac_region_h fun K hK => ?_; simp (disch := omega) [go_sem, *, wrap64_id, upd_ne, mk3_true, flatten_replicate_one, stepK_if, ilt_true, ilt_false, ile_true, ile_false, Try.ntmps6])
          | (refine ac_draw_h mixed (by kernel_rfl) fun K hK => ?_; simp (disch := omega) [go_sem, *, wrap64_id, upd_ne, mk3_true, flatten_replicate_one, stepK_if, ilt_true, ilt_false, ile_true, ile_false, Try.ntmps6])
          | (apply Hide.out hK; clear hK K; try with_reducible dsimp only [thenA])
          | (apply Hide.out ht; clear ht hf Kt Kf)
          | (apply Hide.out hf; clear ht hf Kt Kf)
          | (clear hK K; apply Hide.out hK; clear hK K; try with_reducible dsimp only [thenA])
          | (clear hK K; clear hK K; apply Hide.out hK; clear hK K; try with_reducible dsimp only [thenA])
          | (refine ac_block ?_)
          | (refine ac_skip ?_; simp only [thenA, blockA])
          | (refine ac_exit ?_; simp only [thenA, blockA, if_true, if_false, Nat.reduceEqDiff])
          | (with_reducible show nextK _ _ _ _ _ _ _; simp (disch := omega) [go_sem, *])
          | (refine wantK_split (fun hc => ?_) (fun hc => ?_) <;> (try simp only [Bool.not_eq_true', Bool.not_eq_false', Bool.not_eq_eq_eq_not, Bool.not_true, Bool.not_false, decide_eq_true_eq, decide_eq_false_iff_not, Int.not_lt, Int.not_le] at hc) <;> (try (exfalso; omega)) <;> (try simp (disch := omega) [go_sem, *, wrap64_id, upd_ne, mk3_true, flatten_replicate_one, stepK_if, ilt_true, ilt_false, ile_true, ile_false, Try.ntmps6]))
          | (refine ac_cond_h fun Kt Kf ht hf => ?_; simp (disch := omega) [go_sem, *, wrap64_id, upd_ne, mk3_true, flatten_replicate_one, stepK_if, ilt_true, ilt_false, ile_true, ile_false, Try.ntmps6]; try (refine ⟨fun hc => ?_, fun hc => ?_⟩ <;> try (exfalso; omega))))
        refine ac_ret ?_
        refine ⟨by simp, _, (by simp (disch := omega) [go_sem] <;> rfl), ?_⟩
        obtain ⟨_, _, _, _, _, hf, hb0⟩ := A.out
        refine ret_id ⟨fun k hk => hf k (by omega), by simp [go_sem, below], by simp [go_sem], rfl, rfl⟩
end Go.AM
