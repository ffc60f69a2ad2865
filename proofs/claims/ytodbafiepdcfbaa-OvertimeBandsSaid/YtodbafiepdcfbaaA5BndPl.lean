/- OvertimeBands: the lengths of the bands of a day and of a week. -/
import Derived.Test.YtodbafiepdcfbaaA5ConPl
import Derived.Test.YtodbafiepdcfbaaA5Tot
import Derived.Test.YtodbafiepdcfbaaA5Sane
import Derived.Test.YtodbafiepdcfbaaA5OrdPl
set_option linter.unusedSimpArgs false
set_option linter.unusedVariables false
set_option linter.unusedSectionVars false
namespace Go.Proofs.Ytodbafiepdcfbaa
open Go Go.Abs
set_option linter.unusedSimpArgs false
set_option linter.unusedVariables false

theorem sEq_trans {a b c : ByteArray} (h : sEq a b = true) : sEq a c = sEq b c := by
  unfold sEq at *
  rw [beq_iff_eq] at h
  rw [h]
def namedL (b : ByteArray) : List Tm → Int
  | [] => 0
  | t :: ts => if sEq t.name b then t.min else namedL b ts
theorem namedL_addT {b b' : ByteArray} {m : Int} : ∀ acc : List Tm, namedL b (addT b' m acc) = namedL b acc + if sEq b' b then m else 0
  | [] => by simp [addT, namedL]
  | t :: ts => by
    have ih := namedL_addT (b := b) (b' := b') (m := m) ts
    unfold addT
    by_cases h : sEq t.name b' = true
    · rw [if_pos h]
      simp only [namedL]
      rw [sEq_trans h]
      by_cases h2 : sEq b' b = true
      · simp [h2]
      · simp [h2]
    · rw [if_neg h]
      simp only [namedL]
      by_cases h2 : sEq t.name b = true
      · have : ¬ sEq b' b = true := fun h3 => h (by rw [sEq_trans h2, sEq_comm]; exact h3)
        simp [h2, this]
      · simp [h2, ih]
def lenQ (Q : Int → Bool) (b : ByteArray) : List Pc → Int
  | [] => 0
  | p :: ps => (if Q p.day && sEq p.band b then p.to - p.fr else 0) + lenQ Q b ps
theorem lenQ_append {Q : Int → Bool} {b : ByteArray} : ∀ (x y : List Pc), lenQ Q b (x ++ y) = lenQ Q b x + lenQ Q b y
  | [], y => by simp [lenQ]
  | p :: x, y => by simp only [List.cons_append, lenQ, lenQ_append x y]; omega
theorem goesOn_iff {p q : Pc} : goesOn p q = true ↔ p.day = q.day ∧ sEq p.band q.band = true ∧ p.to = q.fr := by
  simp [goesOn]
theorem lenQ_addP {Q : Int → Bool} {b : ByteArray} {ps : List Pc} {q : Pc} : lenQ Q b (addP ps q) = lenQ Q b ps + if Q q.day && sEq q.band b then q.to - q.fr else 0 := by
  rcases hp : ps.getLast? with _ | p
  · have : ps = [] := by simpa using hp
    subst this
    simp [addP, lenQ]
  · by_cases h : goesOn p q = true
    · rw [addP_on hp h]
      obtain ⟨h1, h2, h3⟩ := goesOn_iff.1 h
      have e : ps = ps.dropLast ++ [p] := by
        obtain ⟨ys, rfl⟩ := List.getLast?_eq_some_iff.1 hp
        simp
      rw [lenQ_append]
      conv => rhs; rw [e, lenQ_append]
      simp only [lenQ]
      rw [h1, sEq_trans h2]
      split <;> omega
    · rw [addP_off hp h, lenQ_append]
      simp only [lenQ]
      omega
theorem namedL_foldl {b : ByteArray} {d : Int} : ∀ (l : List Pc) (acc : List Tm), (∀ p ∈ l, ivP p.fr p.to) → namedL b (l.foldl (tot d) acc) = namedL b acc + lenQ (fun x => decide (x = d)) b l
  | [], acc, _ => by simp [lenQ]
  | p :: l, acc, h => by
    have ih := namedL_foldl (b := b) (d := d) l (tot d acc p) fun x hx => h x (List.mem_cons_of_mem _ hx)
    have hp := h p List.mem_cons_self
    rw [List.foldl_cons, ih]
    simp only [lenQ]
    unfold tot
    by_cases hd : p.day = d
    · rw [if_pos ⟨hd, hp⟩, namedL_addT]
      simp only [hd, decide_true, Bool.true_and]
      omega
    · rw [if_neg (fun h => hd h.1)]
      simp [hd]
theorem namedL_totals {b : ByteArray} {d : Int} {l : List Pc} (h : ∀ p ∈ l, ivP p.fr p.to) (hl : l.length ≤ 4096) : namedL b (totals l d) = lenQ (fun x => decide (x = d)) b l := by
  unfold totals
  rw [List.take_of_length_le hl, namedL_foldl l [] h]
  simp [namedL]
theorem lenQ_bd {Q : Int → Bool} {b : ByteArray} : ∀ {l : List Pc}, (∀ p ∈ l, p.fr < p.to) → 0 ≤ lenQ Q b l ∧ lenQ Q b l ≤ lenP l
  | [], _ => by simp [lenQ, lenP]
  | p :: l, h => by
    have ih := lenQ_bd (Q := Q) (b := b) fun x (hx : x ∈ l) => h x (List.mem_cons_of_mem _ hx)
    have := h p List.mem_cons_self
    simp only [lenQ, lenP]
    split <;> omega
theorem lenQ_congr {Q Q' : Int → Bool} {b : ByteArray} : ∀ {l : List Pc}, (∀ p ∈ l, Q p.day = Q' p.day) → lenQ Q b l = lenQ Q' b l
  | [], _ => rfl
  | p :: l, h => by
    simp only [lenQ]
    rw [lenQ_congr fun x (hx : x ∈ l) => h x (List.mem_cons_of_mem _ hx), h p List.mem_cons_self]
theorem lenQ_add {Q Q' Q'' : Int → Bool} {b : ByteArray} : ∀ {l : List Pc}, (∀ x, (Q x = (Q' x || Q'' x)) ∧ ¬ (Q' x = true ∧ Q'' x = true)) → lenQ Q b l = lenQ Q' b l + lenQ Q'' b l
  | [], _ => by simp [lenQ]
  | p :: l, h => by
    simp only [lenQ]
    rw [lenQ_add (l := l) h]
    obtain ⟨h1, h2⟩ := h p.day
    rw [h1]
    cases h3 : Q' p.day <;> cases h4 : Q'' p.day <;> cases sEq p.band b <;> simp_all <;> omega

/-- one band `M` behind `a` minutes of the days `Q`, counted by `c` -/
structure OneB (R : Rl) (N M : ByteArray) (a : Int) (Q : Int → Bool) (c : Ost → Int) : Prop where
  z : c ⟨[], [], []⟩ = 0
  y : ∀ s m, Q m.1 = true → c (stepM R s m) = c s + 1
  n : ∀ s m, Q m.1 = false → c (stepM R s m) = c s
  b : ∀ s d, Q d = true → (bandOf R s.D s.W d).1 = if c s < a then N else M
def cntQ (Q : Int → Bool) (ms : List (Int × Int)) : Int := ms.countP fun m => Q m.1
theorem run_one {R : Rl} {N M : ByteArray} {a : Int} {Q : Int → Bool} {c : Ost → Int} (h : OneB R N M a Q c) (ha : 0 ≤ a) (hNM : sEq N M = false) (ms : List (Int × Int)) :
    c (run R ms) = cntQ Q ms ∧ lenQ Q N (run R ms).ps = min (cntQ Q ms) a ∧ lenQ Q M (run R ms).ps = max (cntQ Q ms - a) 0 := by
  induction ms using list_snoc_ind with
  | h0 => exact ⟨h.z, by simp [run, lenQ, cntQ]; omega, by simp [run, lenQ, cntQ]; omega⟩
  | h1 ms m ih =>
    obtain ⟨i1, i2, i3⟩ := ih
    rw [run_snoc]
    have hps : (stepM R (run R ms) m).ps = addP (run R ms).ps ⟨m.1, m.2, m.2 + 1, (bandOf R (run R ms).D (run R ms).W m.1).1⟩ := rfl
    rw [hps, lenQ_addP, lenQ_addP, i2, i3]
    have hcnt : cntQ Q (ms ++ [m]) = cntQ Q ms + if Q m.1 then 1 else 0 := by
      unfold cntQ
      rw [List.countP_append, List.countP_cons]
      cases Q m.1 <;> simp
    rw [hcnt]
    cases hq : Q m.1
    · rw [h.n _ _ hq, i1]
      simp [hq]
    · rw [h.y _ _ hq, i1, h.b _ _ hq, i1]
      simp only [hq, Bool.true_and, if_true]
      have hMN : sEq M N = false := by rw [sEq_comm]; exact hNM
      by_cases hlt : cntQ Q ms < a
      · rw [if_pos hlt]
        simp only [sEq_refl, hNM, if_true, Bool.false_eq_true, if_false]
        clear hcnt
        refine ⟨by trivial, ?_, ?_⟩ <;> omega
      · rw [if_neg hlt]
        simp only [sEq_refl, hMN, if_true, Bool.false_eq_true, if_false]
        clear hcnt
        refine ⟨by trivial, ?_, ?_⟩ <;> omega
theorem addP_last (ps : List Pc) (q : Pc) : ∃ p, (addP ps q).getLast? = some p ∧ p.day = q.day ∧ p.to = q.to ∧ sEq p.band q.band = true := by
  rcases hp : ps.getLast? with _ | p
  · have : ps = [] := by simpa using hp
    subst this
    exact ⟨q, by simp [addP], rfl, rfl, sEq_refl _⟩
  · by_cases h : goesOn p q = true
    · rw [addP_on hp h]
      obtain ⟨h1, h2, h3⟩ := goesOn_iff.1 h
      exact ⟨{ p with to := q.to }, by simp, h1, rfl, h2⟩
    · rw [addP_off hp h]
      exact ⟨q, by simp, rfl, rfl, sEq_refl _⟩
theorem addP_same {ps : List Pc} {p q : Pc} (hp : ps.getLast? = some p) (h : goesOn p q = true) : (addP ps q).length = ps.length := by
  rw [addP_on hp h]
  have : ps ≠ [] := by intro h; subst h; simp at hp
  have : 0 < ps.length := List.length_pos_iff.2 this
  simp
  omega
theorem chunk_len {R : Rl} {N M : ByteArray} {a : Int} {Q : Int → Bool} {c : Ost → Int} (h : OneB R N M a Q c) {d : Int} (hd : Q d = true) (s : Ost) (f : Int) : ∀ n : Nat,
    n = 0 ∨ ∃ p, ((minsF d f n).foldl (stepM R) s).ps.getLast? = some p ∧ p.day = d ∧ p.to = f + n ∧
      ((sEq p.band N = true ∧ ((minsF d f n).foldl (stepM R) s).ps.length ≤ s.ps.length + 1) ∨ (sEq p.band M = true ∧ ((minsF d f n).foldl (stepM R) s).ps.length ≤ s.ps.length + 2 ∧ a ≤ c ((minsF d f n).foldl (stepM R) s)))
  | 0 => .inl rfl
  | n + 1 => by
    refine .inr ?_
    have ih := chunk_len h hd s f n
    rw [minsF_succ, List.foldl_append, List.foldl_cons, List.foldl_nil]
    generalize hs : (minsF d f n).foldl (stepM R) s = sn at *
    have hps : (stepM R sn (d, f + n)).ps = addP sn.ps ⟨d, f + n, f + n + 1, if c sn < a then N else M⟩ := by
      rw [← h.b sn d hd]; rfl
    have hc : c (stepM R sn (d, f + n)) = c sn + 1 := h.y _ _ hd
    rw [hps, hc]
    obtain ⟨p', q1, q2, q3, q4⟩ := addP_last sn.ps ⟨d, f + n, f + n + 1, if c sn < a then N else M⟩
    have hal := addP_length sn.ps ⟨d, f + n, f + n + 1, if c sn < a then N else M⟩
    refine ⟨p', q1, q2, by rw [q3]; simp only; omega, ?_⟩
    simp only at q4
    rcases ih with rfl | ⟨p, p1, p2, p3, p4⟩
    · have : sn = s := by rw [← hs]; rfl
      subst this
      by_cases hlt : c sn < a
      · rw [if_pos hlt] at q4 hal ⊢; exact .inl ⟨q4, hal⟩
      · rw [if_neg hlt] at q4 hal ⊢; exact .inr ⟨q4, by omega, by omega⟩
    · rcases p4 with ⟨b1, b2⟩ | ⟨b1, b2, b3⟩
      · by_cases hlt : c sn < a
        · rw [if_pos hlt] at q4 hal ⊢
          refine .inl ⟨q4, ?_⟩
          rw [addP_same p1 (goesOn_iff.2 ⟨p2, b1, p3⟩)]
          exact b2
        · rw [if_neg hlt] at q4 hal ⊢; exact .inr ⟨q4, by omega, by omega⟩
      · rw [if_neg (by omega)] at q4 ⊢
        refine .inr ⟨q4, ?_, by omega⟩
        rw [addP_same p1 (goesOn_iff.2 ⟨p2, b1, p3⟩)]
        exact b2
theorem run_len {R : Rl} {N M : ByteArray} {a : Int} {Q : Int → Int → Bool} {c : Int → Ost → Int} (h : ∀ d, OneB R N M a (Q d) (c d)) (hd : ∀ d, Q d d = true) (S : List Spn) : (run R (mins S)).ps.length ≤ 2 * S.length := by
  induction S using list_snoc_ind with
  | h0 => simp [mins, run]
  | h1 S s ih =>
    rw [mins_append, mins_one, run_app, List.length_append]
    have := chunk_len (h s.day) (hd s.day) (run R (mins S)) s.fr (s.to - s.fr).toNat
    unfold minsP
    rcases this with h0 | ⟨p, _, _, _, h4⟩
    · rw [h0]
      simp [minsF]
      omega
    · simp only [List.length_cons, List.length_nil]
      omega
theorem run_fr (R : Rl) (ms : List (Int × Int)) : ∀ p ∈ (run R ms).ps, ∃ m ∈ ms, p.fr = m.2 := by
  induction ms using list_snoc_ind with
  | h0 => intro p hp; simp [run] at hp
  | h1 ms m ih =>
    rw [run_snoc]
    intro p hp
    have hps : (stepM R (run R ms) m).ps = addP (run R ms).ps ⟨m.1, m.2, m.2 + 1, (bandOf R (run R ms).D (run R ms).W m.1).1⟩ := rfl
    rw [hps] at hp
    generalize (run R ms).ps = ps at *
    rcases hq : ps.getLast? with _ | q
    · have : ps = [] := by simpa using hq
      subst this
      simp [addP] at hp
      subst hp
      exact ⟨m, by simp, rfl⟩
    · have hqm : q ∈ ps := List.mem_of_getLast? hq
      by_cases h : goesOn q ⟨m.1, m.2, m.2 + 1, (bandOf R (run R ms).D (run R ms).W m.1).1⟩ = true
      · rw [addP_on hq h] at hp
        rcases List.mem_append.1 hp with hp | hp
        · obtain ⟨x, hx, h1⟩ := ih p (List.dropLast_subset _ hp)
          exact ⟨x, by simp [hx], h1⟩
        · rw [List.mem_singleton] at hp; subst hp
          obtain ⟨x, hx, h1⟩ := ih q hqm
          exact ⟨x, by simp [hx], h1⟩
      · rw [addP_off hq h] at hp
        rcases List.mem_append.1 hp with hp | hp
        · obtain ⟨x, hx, h1⟩ := ih p hp
          exact ⟨x, by simp [hx], h1⟩
        · rw [List.mem_singleton] at hp; subst hp
          exact ⟨m, by simp, rfl⟩
theorem run_iv {R : Rl} {S : List Spn} (hv : ∀ s ∈ S, ivP s.fr s.to) (ha : asc S) : ∀ p ∈ (run R (mins S)).ps, ivP p.fr p.to := by
  intro p hp
  have hG := run_good R (mins S) (incr_mins hv ha)
  obtain ⟨m, hm, h1⟩ := run_fr R _ p hp
  obtain ⟨m2, hm2, h2⟩ := hG.last p hp
  have h3 := hG.pos p hp
  obtain ⟨s, hs, _, h4, h5⟩ := (mem_mins hv).1 hm
  obtain ⟨s2, hs2, _, h6, h7⟩ := (mem_mins hv).1 hm2
  have a := hv s hs
  have b := hv s2 hs2
  unfold ivP at *
  omega

def nmM : ByteArray := ⟨#[109, 111, 114, 101]⟩
def rDay (a : Int) : Rl := ⟨nmN, [⟨nmM, a⟩], []⟩
def rWeek (a : Int) : Rl := ⟨nmN, [], [⟨nmM, a⟩]⟩
theorem oneDay (a d : Int) : OneB (rDay a) nmN nmM a (fun x => decide (x = d)) (fun s => lk s.D d) := by
  refine ⟨rfl, fun s m h => ?_, fun s m h => ?_, fun s e h => ?_⟩
  · simp only [decide_eq_true_eq] at h
    show lk (putI m.1 (lk s.D m.1 + 1) s.D) d = _
    rw [lk_put, if_pos h.symm, h]
  · simp only [decide_eq_false_iff_not] at h
    show lk (putI m.1 (lk s.D m.1 + 1) s.D) d = _
    rw [lk_put, if_neg (fun e => h e.symm)]
  · simp only [decide_eq_true_eq] at h
    subst h
    by_cases hlt : lk s.D e < a
    · simp [bandOf, rDay, fnd, hlt]
    · simp [bandOf, rDay, fnd, hlt, bnm]
theorem oneWeek (a d : Int) : OneB (rWeek a) nmN nmM a (fun x => decide (mon x = mon d)) (fun s => lk s.W (mon d)) := by
  have hfl : ∀ D W x, (bandOf (rWeek a) D W x).2 = true := fun D W x => by simp [bandOf, rWeek, fnd]
  refine ⟨rfl, fun s m h => ?_, fun s m h => ?_, fun s e h => ?_⟩
  · simp only [decide_eq_true_eq] at h
    show lk (if (bandOf (rWeek a) s.D s.W m.1).2 then putI (mon m.1) (lk s.W (mon m.1) + 1) s.W else s.W) (mon d) = _
    rw [hfl, if_pos rfl, lk_put, if_pos h.symm, h]
  · simp only [decide_eq_false_iff_not] at h
    show lk (if (bandOf (rWeek a) s.D s.W m.1).2 then putI (mon m.1) (lk s.W (mon m.1) + 1) s.W else s.W) (mon d) = _
    rw [hfl, if_pos rfl, lk_put, if_neg (fun e => h e.symm)]
  · simp only [decide_eq_true_eq] at h
    rw [← h]
    by_cases hlt : lk s.W (mon e) < a
    · simp [bandOf, rWeek, fnd, hlt]
    · simp [bandOf, rWeek, fnd, hlt, bnm]
theorem nm_ne : sEq nmN nmM = false := by kernel_rfl
theorem rDay_ok {a : Int} (h0 : 0 ≤ a) (h1 : a ≤ 1000) : vR (rDay a) = 0 := by
  unfold vR
  rw [if_neg (by simp [rDay]), if_pos]
  refine ⟨of_decide_eq_true (by kernel_rfl), ?_, rfl⟩
  have : nmP nmM := of_decide_eq_true (by kernel_rfl)
  simp [rDay, bdsB, this]; omega
theorem rWeek_ok {a : Int} (h0 : 0 ≤ a) (h1 : a ≤ 1000) : vR (rWeek a) = 0 := by
  unfold vR
  rw [if_neg (by simp [rWeek]), if_pos]
  refine ⟨of_decide_eq_true (by kernel_rfl), rfl, ?_⟩
  have : nmP nmM := of_decide_eq_true (by kernel_rfl)
  simp [rWeek, bdsB, this]; omega

def sumQ (Q : Int → Bool) : List Wk → Int
  | [] => 0
  | w :: ws => (if Q w.day then mnI w.iv else 0) + sumQ Q ws
theorem sumQ_append {Q : Int → Bool} : ∀ (a b : List Wk), sumQ Q (a ++ b) = sumQ Q a + sumQ Q b
  | [], b => by simp [sumQ]
  | w :: a, b => by simp only [List.cons_append, sumQ, sumQ_append a b]; omega
theorem sumQ_take {Q : Int → Bool} {ws : List Wk} {j : Nat} (h : j < ws.length) : sumQ Q (ws.take (j + 1)) = sumQ Q (ws.take j) + if Q ws[j].day then mnI ws[j].iv else 0 := by
  rw [List.take_succ_eq_append_getElem h, sumQ_append]
  simp [sumQ]
theorem sumQ_bd {Q : Int → Bool} : ∀ {ws : List Wk}, (∀ w ∈ ws, wkG w) → 0 ≤ sumQ Q ws ∧ sumQ Q ws ≤ 241937280 * ws.length
  | [], _ => by simp [sumQ]
  | w :: ws, h => by
    have ih := sumQ_bd (Q := Q) fun x (hx : x ∈ ws) => h x (List.mem_cons_of_mem _ hx)
    have h2 := (h w List.mem_cons_self).2.1
    have h3 := mnI_bd w.iv
    simp only [sumQ, List.length_cons]
    split <;> omega
theorem cntQ_append {Q : Int → Bool} (a b : List (Int × Int)) : cntQ Q (a ++ b) = cntQ Q a + cntQ Q b := by
  unfold cntQ; rw [List.countP_append]; omega
theorem cntQ_perm {Q : Int → Bool} {a b : List (Int × Int)} (h : a.Perm b) : cntQ Q a = cntQ Q b := by
  unfold cntQ; rw [h.countP_eq]
theorem cntQ_minsF {Q : Int → Bool} {d f : Int} (n : Nat) : cntQ Q (minsF d f n) = if Q d then (n : Int) else 0 := by
  unfold cntQ minsF
  rw [List.countP_map]
  cases hq : Q d
  · have : ((fun m : Int × Int => Q m.1) ∘ fun j : Nat => (d, f + (j : Int))) = fun _ => false := by funext j; simp [hq]
    rw [this]; simp
  · have : ((fun m : Int × Int => Q m.1) ∘ fun j : Nat => (d, f + (j : Int))) = fun _ => true := by funext j; simp [hq]
    rw [this]; simp
theorem cntQ_sumQ {Q : Int → Bool} : ∀ {ws : List Wk}, (∀ w ∈ ws, wkP w) → cntQ Q (mins (flatS ws)) = sumQ Q ws
  | [], _ => by simp [cntQ, flatS, mins, sumQ]
  | w :: ws, h => by
    have ih := cntQ_sumQ (Q := Q) fun x (hx : x ∈ ws) => h x (List.mem_cons_of_mem _ hx)
    have hw := (h w List.mem_cons_self).2
    have e : flatS (w :: ws) = flatW w ++ flatS ws := rfl
    rw [e, mins_append, cntQ_append, ih]
    simp only [sumQ]
    congr 1
    unfold flatW
    generalize w.iv = iv at hw
    induction iv with
    | nil => simp [cntQ, mins, mnI]
    | cons v iv ih2 =>
      have a := ih2 fun x hx => hw x (List.mem_cons_of_mem _ hx)
      have b := hw v List.mem_cons_self
      have e2 : mins (List.map (fun v => (⟨w.day, v.fr, v.to⟩ : Spn)) (v :: iv)) = minsP ⟨w.day, v.fr, v.to⟩ ++ mins (List.map (fun v => (⟨w.day, v.fr, v.to⟩ : Spn)) iv) := rfl
      rw [e2, cntQ_append, a]
      unfold minsP
      rw [cntQ_minsF]
      simp only [mnI]
      rw [if_pos b]
      unfold ivP at b
      split <;> omega

end Go.Proofs.Ytodbafiepdcfbaa
