/- Working time in plain words: what the functions of chapter 11 compute. -/
import Derived.Test.YtjacobmkfkmdiaaA2Ref
set_option linter.unusedSimpArgs false
set_option linter.unusedVariables false
set_option linter.unusedSectionVars false
namespace Go.Proofs.Ytjacobmkfkmdiaa
open Go Go.Abs

structure Br where
  after : Int
  minutes : Int
def Br.cells (e : Br) : List AVal := [.int .i64 e.after, .int .i64 e.minutes]
instance : Cel Br := ⟨Br.cells, 2, fun _ => rfl, fun _ => rfl, fun _ => rfl⟩
instance : Flt Br := ⟨fun _ => rfl⟩
theorem cel_br (e : Br) : Cel.c e = [.int .i64 e.after, .int .i64 e.minutes] := rfl
theorem cel_br_sz : Cel.sz Br = 2 := rfl
theorem cel_br_take (e : Br) : List.take 2 (Cel.c e) = Cel.c e := rfl
attribute [go_sem] cel_br_sz cel_br_take
theorem Br.ext' {a b : Br} (h0 : a.after = b.after) (h1 : a.minutes = b.minutes) : a = b := by
  cases a; cases b; simp_all

/-- rules -/
structure Rul where
  grid : Int
  mode : Int
  snap : Int
  brs : List Br
def Rul.cells (p : Rul) : List AVal := [.int .i64 p.grid, .int .i64 p.mode, .int .i64 p.snap, .pure 2 (els p.brs)]
instance : Cel Rul := ⟨Rul.cells, 4, fun _ => rfl, fun p => by simp [Rul.cells, cleanL, clean], fun p => by simp [Rul.cells, one]⟩
theorem cel_rul (p : Rul) : Cel.c p = [.int .i64 p.grid, .int .i64 p.mode, .int .i64 p.snap, .pure 2 (els p.brs)] := rfl
/-- the work of a day -/
structure Wk where
  day : Int
  iv : List Iv
def Wk.cells (p : Wk) : List AVal := [.int .i64 p.day, .pure 2 (els p.iv)]
instance : Cel Wk := ⟨Wk.cells, 2, fun _ => rfl, fun p => by simp [Wk.cells, cleanL, clean], fun p => by simp [Wk.cells, one]⟩
theorem cel_wk (p : Wk) : Cel.c p = [.int .i64 p.day, .pure 2 (els p.iv)] := rfl
theorem cel_wk_sz : Cel.sz Wk = 2 := rfl
theorem cel_wk_take (p : Wk) : List.take 2 (Cel.c p) = Cel.c p := rfl
attribute [go_sem] cel_wk_sz cel_wk_take
theorem br_snoc {l : List Br} {a b : Int} : els l ++ [[.int .i64 a, .int .i64 b]] = els (l ++ [⟨a, b⟩]) := els_snoc (x := Br.mk a b)
theorem wk_snoc {l : List Wk} {a : Int} {bs : List Iv} : els l ++ [[.int .i64 a, .pure 2 (els bs)]] = els (l ++ [⟨a, bs⟩]) := els_snoc (x := Wk.mk a bs)

def ivT : List Iv → Int
  | [] => 0
  | v :: r => (v.to - v.fr) + ivT r
theorem ivT_append : ∀ {l r : List Iv}, ivT (l ++ r) = ivT l + ivT r
  | [], r => by simp [ivT]
  | v :: l, r => by rw [List.cons_append, ivT, ivT, ivT_append]; omega
def joinP (l : List Iv) (v : Iv) : List Iv :=
  if v.to ≤ v.fr then l else match l.getLast? with
    | some u => if u.to = v.fr then l.dropLast ++ [⟨u.fr, v.to⟩] else l ++ [v]
    | none => [v]
theorem joinP_none {l : List Iv} {v : Iv} (h : v.to ≤ v.fr) : joinP l v = l := by rw [joinP, if_pos h]
theorem joinP_nil {v : Iv} (h : v.fr < v.to) : joinP [] v = [v] := by rw [joinP, if_neg (by omega)]; rfl
theorem joinP_snoc {l : List Iv} {u v : Iv} (h : v.fr < v.to) : joinP (l ++ [u]) v = if u.to = v.fr then l ++ [⟨u.fr, v.to⟩] else l ++ [u] ++ [v] := by
  rw [joinP, if_neg (by omega)]; simp
/-- intervals with instants, within bounds -/
def ivsIn (l : List Iv) : Prop := ∀ v ∈ l, 0 ≤ v.fr ∧ v.fr < v.to ∧ v.to ≤ 120968640
theorem ivsIn_snoc {l : List Iv} {v : Iv} : ivsIn (l ++ [v]) ↔ ivsIn l ∧ 0 ≤ v.fr ∧ v.fr < v.to ∧ v.to ≤ 120968640 := by
  simp only [ivsIn, List.mem_append, List.mem_singleton]
  exact ⟨fun h => ⟨fun x hx => h x (.inl hx), h v (.inr rfl)⟩, fun h x hx => hx.elim (h.1 x) (fun e => e ▸ h.2)⟩
theorem ivsIn_len : ∀ {l : List Iv}, ivsIn l → (l.length : Int) ≤ ivT l
  | [], _ => by simp [ivT]
  | v :: r, h => by
    have h1 := h v (by simp)
    have h2 := ivsIn_len (l := r) (fun x hx => h x (by simp [hx]))
    rw [ivT, List.length_cons]; omega
theorem joinP_in {l : List Iv} {v : Iv} (h : ivsIn l) (h0 : 0 ≤ v.fr) (h1 : v.to ≤ 120968640) : ivsIn (joinP l v) ∧ ivT (joinP l v) = ivT l + max (v.to - v.fr) 0 := by
  by_cases hv : v.to ≤ v.fr
  · rw [joinP_none hv]; exact ⟨h, by omega⟩
  · rcases List.eq_nil_or_concat l with rfl | ⟨l', u, rfl⟩
    · rw [joinP_nil (by omega)]
      exact ⟨by simp only [ivsIn, List.mem_singleton]; rintro x rfl; omega, by simp only [ivT]; omega⟩
    · rw [List.concat_eq_append] at h ⊢
      rw [joinP_snoc (by omega)]
      rw [ivsIn_snoc] at h
      split
      · exact ⟨by rw [ivsIn_snoc]; exact ⟨h.1, by simp only; omega, by simp only; omega, by simp only; omega⟩, by simp only [ivT_append, ivT]; omega⟩
      · exact ⟨by rw [ivsIn_snoc, ivsIn_snoc]; exact ⟨h, by omega, by omega, by omega⟩, by simp only [ivT_append, ivT]; omega⟩

def brsOk : Int → Int → List Br → Bool
  | _, _, [] => true
  | a, m, b :: r => decide (a < b.after ∧ b.after ≤ 1440 ∧ m < b.minutes ∧ b.minutes ≤ 1440) && brsOk b.after b.minutes r
def Rul.modeOk (r : Rul) : Prop := (r.mode = 0 ∧ r.grid = 0 ∨ 1 ≤ r.mode ∧ r.mode ≤ 3 ∧ 1 ≤ r.grid ∧ r.grid ≤ 60) ∧ 0 ≤ r.snap ∧ r.snap ≤ 120
instance (r : Rul) : Decidable r.modeOk := by unfold Rul.modeOk; infer_instance
def rulE (r : Rul) : Int := if 16 < r.brs.length then 3 else if r.modeOk ∧ brsOk (-1) 0 r.brs = true then 0 else 1
def gridP (r : Rul) (t : Int) (e : Bool) : Int :=
  if r.mode = 0 then t else if t / r.grid * r.grid = t then t
  else if (r.mode = 1 ∧ e = false) ∨ (r.mode = 2 ∧ e = true) ∨ (r.mode = 3 ∧ r.grid ≤ 2 * (t - t / r.grid * r.grid)) then t / r.grid * r.grid + r.grid else t / r.grid * r.grid
def stayP (r : Rul) (pl : Iv) (last : Int) (p : Pre) : Iv :=
  ⟨max (if ¬ (pl.fr = 0 ∧ pl.to = 0) ∧ p.fr - pl.fr ≤ r.snap ∧ pl.fr - p.fr ≤ r.snap then pl.fr else gridP r p.fr false) last,
   min (if ¬ (pl.fr = 0 ∧ pl.to = 0) ∧ p.to - pl.to ≤ r.snap ∧ pl.to - p.to ≤ r.snap then pl.to else gridP r p.to true) 120968640⟩
def adjP (r : Rul) (pl : Iv) : Int → List Pre → List Iv
  | _, [] => []
  | last, p :: ps => if (stayP r pl last p).fr < (stayP r pl last p).to then stayP r pl last p :: adjP r pl (max last (stayP r pl last p).to) ps else adjP r pl (max last (stayP r pl last p).to) ps
def brkP (ps : List Pre) : List Iv := ps.flatMap (·.br)
def wInner : List Iv → Iv → List Iv → List Iv
  | [], v, r => joinP r v
  | o :: os, v, r => if o.fr < v.to then wInner os ⟨o.to, v.to⟩ (joinP r ⟨v.fr, o.fr⟩) else joinP r v
def skipO (f : Int) : List Iv → List Iv
  | [] => []
  | o :: os => if o.to ≤ f then skipO f os else o :: os
def woP : List Iv → List Iv → List Iv → List Iv
  | [], _, r => r
  | v :: l, os, r => woP l (skipO v.fr os) (wInner (skipO v.fr os) v r)
def cutP : List Iv → Int → Int → List Iv → List Iv
  | [], _, _, r => r
  | v :: l, a, k, r => cutP l (a - (v.to - v.fr)) k (joinP (joinP r ⟨v.fr, v.fr + min (max a 0) (v.to - v.fr)⟩) ⟨v.fr + min (max (a + k) 0) (v.to - v.fr), v.to⟩)
def enfP : List Br → Int → List Iv → List Iv
  | [], _, w => w
  | b :: bs, k, w => if ivT w ≤ b.after ∨ b.minutes ≤ k then enfP bs k w else enfP bs (k + min (b.minutes - k) (ivT w - b.after)) (cutP w b.after (min (b.minutes - k) (ivT w - b.after)) [])
def takenP (w : List Iv) : Int := (w.getLast?.elim 0 (·.to)) - (w.head?.elim 0 (·.fr)) - ivT w
def workP (r : Rul) (pl : Iv) (ps : List Pre) : List Iv :=
  let w := woP (adjP r pl 0 ps) (brkP ps) []
  if w.isEmpty then [] else enfP r.brs (takenP w) w
def adjE (r : Rul) (pl : Iv) (ps : List Pre) : Int :=
  if rulE r ≠ 0 then rulE r else if ¬ (pl.fr = 0 ∧ pl.to = 0) ∧ ivIn pl 0 120968640 = false then 1 else if pvalid ps ≠ 0 then pvalid ps else if 100000 < ivT (adjP r pl 0 ps) then 3 else 0
def minP : List Iv → Int
  | [] => 0
  | v :: r => (if ivIn v 0 120968640 then v.to - v.fr else 0) + minP r

theorem brOk_mem : ∀ {l : List Iv} {e t : Int}, brOk e t l = true → ∀ v ∈ l, e ≤ v.fr ∧ v.fr < v.to ∧ v.to ≤ t
  | [], _, _, _, v, h => by simp at h
  | x :: r, e, t, h, v, hv => by
    simp only [brOk, ivIn, Bool.and_eq_true, decide_eq_true_eq] at h
    rcases List.mem_cons.1 hv with rfl | hv
    · exact h.1
    · have := brOk_mem h.2 v hv; omega
theorem brOk_in {l : List Iv} {e : Int} (h : brOk e 120968640 l = true) (he : 0 ≤ e) : ivsIn l := fun v hv => by have := brOk_mem h v hv; omega
theorem brOk_low : ∀ {l : List Iv} {e e' t : Int}, brOk e t l = true → e' ≤ e → brOk e' t l = true
  | [], _, _, _, _, _ => rfl
  | b :: r, e, e', t, h, he => by
    simp only [brOk, ivIn, Bool.and_eq_true, decide_eq_true_eq] at h ⊢
    exact ⟨by omega, h.2⟩
theorem skipO_ok : ∀ {os : List Iv} {e t f : Int}, brOk e t os = true → brOk e t (skipO f os) = true ∧ ∀ o ∈ skipO f os, f < o.to
  | [], _, _, _, _ => ⟨rfl, by simp [skipO]⟩
  | o :: os, e, t, f, h => by
    have h' := h
    simp only [brOk, ivIn, Bool.and_eq_true, decide_eq_true_eq] at h
    rw [skipO]
    split
    · obtain ⟨h1, h2⟩ := skipO_ok (f := f) h.2
      exact ⟨brOk_low h1 (by omega), h2⟩
    · refine ⟨h', fun x hx => ?_⟩
      rcases List.mem_cons.1 hx with rfl | hx
      · omega
      · have := brOk_mem h.2 x hx; omega
theorem wInner_in : ∀ {os : List Iv} {e : Int} {v : Iv} {r : List Iv}, brOk e 120968640 os = true → 0 ≤ e → (∀ o ∈ os, v.fr < o.to) → ivsIn r → 0 ≤ v.fr → v.to ≤ 120968640 → ivsIn (wInner os v r) ∧ ivT (wInner os v r) ≤ ivT r + max (v.to - v.fr) 0
  | [], e, v, r, _, _, _, hr, h0, h1 => by
    rw [wInner]
    obtain ⟨a, b⟩ := joinP_in hr h0 h1
    exact ⟨a, by omega⟩
  | o :: os, e, v, r, h, he, ho, hr, h0, h1 => by
    simp only [brOk, ivIn, Bool.and_eq_true, decide_eq_true_eq] at h
    have ho1 := ho o (by simp)
    rw [wInner]
    split
    · obtain ⟨a, b⟩ := joinP_in (v := ⟨v.fr, o.fr⟩) hr h0 (by simp only; omega)
      obtain ⟨c, d⟩ := wInner_in (v := ⟨o.to, v.to⟩) h.2 (by omega) (fun x hx => by have := brOk_mem h.2 x hx; simp only; omega) a (by simp only; omega) h1
      simp only at b d
      exact ⟨c, by omega⟩
    · obtain ⟨a, b⟩ := joinP_in hr h0 h1
      exact ⟨a, by omega⟩
theorem woP_in : ∀ {l os r : List Iv} {e : Int}, brOk e 120968640 os = true → 0 ≤ e → ivsIn l → ivsIn r → ivsIn (woP l os r) ∧ ivT (woP l os r) ≤ ivT r + ivT l
  | [], os, r, e, _, _, _, hr => ⟨hr, by simp [woP, ivT]⟩
  | v :: l, os, r, e, h, he, hl, hr => by
    have hv := hl v (by simp)
    obtain ⟨h1, h2⟩ := skipO_ok (f := v.fr) h
    obtain ⟨a, b⟩ := wInner_in h1 he h2 hr hv.1 hv.2.2
    obtain ⟨c, d⟩ := woP_in (l := l) h1 he (fun x hx => hl x (by simp [hx])) a
    rw [woP, ivT]
    exact ⟨c, by omega⟩
theorem cutP_in : ∀ {l r : List Iv} {a k : Int}, 0 ≤ k → ivsIn l → ivsIn r → ivsIn (cutP l a k r) ∧ ivT (cutP l a k r) ≤ ivT r + ivT l
  | [], r, a, k, _, _, hr => ⟨hr, by simp [cutP, ivT]⟩
  | v :: l, r, a, k, hk, hl, hr => by
    have hv := hl v (by simp)
    obtain ⟨a1, b1⟩ := joinP_in (v := ⟨v.fr, v.fr + min (max a 0) (v.to - v.fr)⟩) hr hv.1 (by simp only; omega)
    obtain ⟨a2, b2⟩ := joinP_in (v := ⟨v.fr + min (max (a + k) 0) (v.to - v.fr), v.to⟩) a1 (by simp only; omega) hv.2.2
    obtain ⟨c, d⟩ := cutP_in (l := l) (a := a - (v.to - v.fr)) hk (fun x hx => hl x (by simp [hx])) a2
    rw [cutP, ivT]
    simp only at b1 b2
    exact ⟨c, by omega⟩
theorem ivT_nonneg {l : List Iv} (h : ivsIn l) : 0 ≤ ivT l := by have := ivsIn_len h; omega

end Go.Proofs.Ytjacobmkfkmdiaa
