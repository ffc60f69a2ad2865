/- Plain laws: frames come back; decoding in two parts; what is accounted for. -/
import Derived.Test.YtkgffhjlfdmfeaaA1Dec
set_option linter.unusedSimpArgs false
set_option linter.unusedVariables false
set_option linter.unusedSectionVars false
namespace Go.Proofs.Ytkgffhjlfdmfeaa
open Go Go.Abs Rec
set_option linter.unusedSimpArgs false

theorem enc_dec' {s : List UInt8} {k n : Nat} (h : s.length = k) (hn : n = dec s) : enc n k = s := by subst h; subst hn; exact enc_dec
theorem dec_enc' {n k : Nat} (h : n < 256 ^ k) : dec (enc n k) = n := by rw [dec_enc, Nat.mod_eq_of_lt h]

theorem frame_take22 (e : Ev) : (frame e).take 22 = body e := by
  rw [frame, List.take_append_of_le_length (by rw [body_length]; omega), List.take_of_length_le (by rw [body_length]; omega)]
theorem frame_drop22 (e : Ev) : (frame e).drop 22 = enc (crc (body e)) 2 := by
  rw [frame, List.drop_append_of_le_length (by rw [body_length]; omega), List.drop_of_length_le (by rw [body_length]; omega)]; rfl

theorem evOf_frame (e : Ev) (he : vEv e) : evOf (frame e) = e := by
  have hv := he
  simp only [vEv, vKey] at hv
  have s1 : ((frame e).drop 2).take 2 = enc e.kt.toNat 2 := rfl
  have s2 : ((frame e).drop 4).take 4 = enc e.ks.toNat 4 := rfl
  have s3 : ((frame e).drop 8).take 4 = enc e.emp.toNat 4 := rfl
  have s4 : ((frame e).drop 12).take 4 = enc e.time.toNat 4 := rfl
  have s5 : ((frame e).drop 1).take 1 = enc e.kind.toNat 1 := rfl
  have s6 : ((frame e).drop 16).take 2 = enc e.tt.toNat 2 := rfl
  have s7 : ((frame e).drop 18).take 4 = enc e.ts.toNat 4 := rfl
  rw [evOf, s1, s2, s3, s4, s5, s6, s7, dec_enc' (by omega), dec_enc' (by omega), dec_enc' (by omega), dec_enc' (by omega), dec_enc' (by omega), dec_enc' (by omega), dec_enc' (by omega)]
  cases e
  simp only [Ev.mk.injEq]
  simp only at hv
  omega

theorem good_frame (e : Ev) (he : vEv e) : good (frame e) := by
  refine ⟨rfl, ?_, by rw [evOf_frame e he]; exact he⟩
  rw [frame_take22, frame_drop22, List.take_of_length_le (by rw [enc_length]; omega), dec_enc' (by have := crc_lt (l := body e); omega)]

/-- a frame tells its bytes -/
theorem frame_evOf (b : List UInt8) (hb : b.length = 24) (hg : good b) : frame (evOf b) = b := by
  obtain ⟨g1, g2, _⟩ := hg
  have h0 : b.take 1 = enc 193 1 := by
    cases b with
    | nil => simp at hb
    | cons a b' =>
      have : a = 193 := g1
      subst this
      rfl
  have hl : ∀ k n, k + n ≤ 24 → ((b.drop k).take n).length = n := by intro k n h; simp; omega
  have hbody : body (evOf b) = b.take 22 := by
    have ht : b.take 22 = b.take 1 ++ (b.drop 1).take 1 ++ (b.drop 2).take 2 ++ (b.drop 4).take 4 ++ (b.drop 8).take 4 ++ (b.drop 12).take 4 ++ (b.drop 16).take 2 ++ (b.drop 18).take 4 := by
      have ta : ∀ i j, b.take (i + j) = b.take i ++ (b.drop i).take j := fun i j => List.take_add
      rw [show 22 = 18 + 4 from rfl, ta, show 18 = 16 + 2 from rfl, ta, show 16 = 12 + 4 from rfl, ta, show 12 = 8 + 4 from rfl, ta, show 8 = 4 + 4 from rfl, ta, show 4 = 2 + 2 from rfl, ta, show 2 = 1 + 1 from rfl, ta]
    rw [ht, body, h0]
    simp only [evOf, Int.toNat_natCast]
    rw [enc_dec' (hl 1 1 (by omega)) rfl, enc_dec' (hl 2 2 (by omega)) rfl, enc_dec' (hl 4 4 (by omega)) rfl, enc_dec' (hl 8 4 (by omega)) rfl, enc_dec' (hl 12 4 (by omega)) rfl, enc_dec' (hl 16 2 (by omega)) rfl, enc_dec' (hl 18 4 (by omega)) rfl]
  rw [frame, hbody, g2, enc_dec' (hl 22 2 (by omega)) rfl]
  conv => rhs; rw [← List.take_append_drop 22 b]
  congr 1
  exact List.take_of_length_le (by simp; omega)

/-- frames, one behind the other -/
def cat (es : List Ev) : List UInt8 := (es.map frame).flatten
theorem cat_length : ∀ (es : List Ev), (cat es).length = 24 * es.length
  | [] => rfl
  | e :: es => by
    have := cat_length es
    simp only [cat, List.map_cons, List.flatten_cons, List.length_append, frame_length, List.length_cons] at this ⊢
    omega
theorem cat_cons {e : Ev} {es : List Ev} : cat (e :: es) = frame e ++ cat es := rfl
theorem cat_snoc {e : Ev} {es : List Ev} : cat (es ++ [e]) = cat es ++ frame e := by simp [cat]

theorem scan_cat : ∀ (rest : List Ev) (pre : List UInt8) (n : Nat) (es : List Ev), (∀ e ∈ rest, vEv e) → rest.length < n → scan (pre ++ cat rest) n pre.length es [] = (es ++ rest, [], pre.length + 24 * rest.length)
  | [], pre, n, es, _, hn => by
    rw [scan_end (by simp [cat])]
    simp
  | e :: rest, pre, 0, es, _, hn => by simp at hn
  | e :: rest, pre, n + 1, es, hv, hn => by
    have hl := cat_length (e :: rest)
    simp only [List.length_cons] at hl hn
    have hw : ((pre ++ cat (e :: rest)).drop pre.length).take 24 = frame e := by
      rw [List.drop_left, cat_cons, List.take_append_of_le_length (by rw [frame_length]; omega), List.take_of_length_le (by rw [frame_length]; omega)]
    rw [scan_step (by rw [List.length_append]; omega), hw, if_pos (good_frame e (hv e (by simp))), evOf_frame e (hv e (by simp))]
    have := scan_cat rest (pre ++ frame e) n (es ++ [e]) (fun x hx => hv x (by simp [hx])) (by omega)
    rw [List.append_assoc, ← cat_cons, List.length_append, frame_length] at this
    rw [this]
    simp only [List.append_assoc, List.cons_append, List.nil_append, List.length_cons, Prod.mk.injEq, true_and]
    omega
theorem decode_cat (es : List Ev) (h : ∀ e ∈ es, vEv e) : decode (cat es) = (es, [], 24 * es.length) := by
  have := scan_cat es [] ((cat es).length + 1) [] h (by rw [cat_length]; omega)
  simpa [decode] using this

/-- the events from a place on, and where it ends: gaps do not matter -/
def run (b : List UInt8) : Nat → Nat → List Ev × Nat
  | 0, at_ => ([], at_)
  | n + 1, at_ =>
    if at_ + 24 ≤ b.length then
      if good ((b.drop at_).take 24) then (evOf ((b.drop at_).take 24) :: (run b n (at_ + 24)).1, (run b n (at_ + 24)).2)
      else run b n (at_ + 1)
    else ([], at_)
theorem run_end {b : List UInt8} {n at_ : Nat} (h : ¬ at_ + 24 ≤ b.length) : run b n at_ = ([], at_) := by
  cases n with
  | zero => rfl
  | succ n => rw [run, if_neg h]
theorem scan_run (b : List UInt8) : ∀ (n at_ : Nat) (es : List Ev) (gs : List Gp), (scan b n at_ es gs).1 = es ++ (run b n at_).1 ∧ (scan b n at_ es gs).2.2 = (run b n at_).2
  | 0, at_, es, gs => by simp [scan, run]
  | n + 1, at_, es, gs => by
    rw [scan, run]
    split
    · split
      · have := scan_run b n (at_ + 24) (es ++ [evOf ((b.drop at_).take 24)]) gs
        rw [this.1, this.2]
        simp
      · exact scan_run b n (at_ + 1) es (addGap gs at_)
    · simp
/-- fuel does not matter -/
theorem run_fuel (b : List UInt8) : ∀ (n m at_ : Nat), b.length < n + at_ → b.length < m + at_ → run b n at_ = run b m at_
  | 0, m, at_, h1, h2 => by rw [run_end (by omega), run_end (by omega)]
  | n + 1, 0, at_, h1, h2 => by rw [run_end (by omega), run_end (by omega)]
  | n + 1, m + 1, at_, h1, h2 => by
    rw [run, run]
    split
    · split
      · rw [run_fuel b n m (at_ + 24) (by omega) (by omega)]
      · exact run_fuel b n m (at_ + 1) (by omega) (by omega)
    · rfl
theorem run_range (b : List UInt8) : ∀ (n at_ : Nat), at_ ≤ b.length → b.length < n + at_ → at_ ≤ (run b n at_).2 ∧ (run b n at_).2 ≤ b.length ∧ b.length < (run b n at_).2 + 24
  | 0, at_, h1, h2 => by omega
  | n + 1, at_, h1, h2 => by
    rw [run]
    split
    · split
      · have := run_range b n (at_ + 24) (by omega) (by omega)
        simp only
        omega
      · have := run_range b n (at_ + 1) (by omega) (by omega)
        omega
    · simp only; omega
/-- the part of a list -/
theorem run_take (b : List UInt8) (cut : Nat) (hc : cut ≤ b.length) : ∀ (n at_ : Nat), b.length < n + at_ → at_ ≤ cut →
    run b n at_ = ((run (b.take cut) n at_).1 ++ (run b n (run (b.take cut) n at_).2).1, (run b n (run (b.take cut) n at_).2).2)
  | 0, at_, h1, h2 => by omega
  | n + 1, at_, h1, h2 => by
    have hl : (b.take cut).length = cut := by simp; omega
    by_cases h : at_ + 24 ≤ cut
    · have hw : ((b.take cut).drop at_).take 24 = (b.drop at_).take 24 := by
        rw [List.drop_take, List.take_take, Nat.min_eq_left (by omega)]
      by_cases hg : good ((b.drop at_).take 24)
      · have ih := run_take b cut hc n (at_ + 24) (by omega) (by omega)
        have hr := run_range (b.take cut) n (at_ + 24) (by omega) (by omega)
        have e1 : run b (n + 1) at_ = (evOf ((b.drop at_).take 24) :: (run b n (at_ + 24)).1, (run b n (at_ + 24)).2) := by rw [run, if_pos (by omega), if_pos hg]
        have e2 : run (b.take cut) (n + 1) at_ = (evOf ((b.drop at_).take 24) :: (run (b.take cut) n (at_ + 24)).1, (run (b.take cut) n (at_ + 24)).2) := by rw [run, if_pos (by omega), hw, if_pos hg]
        rw [e1, e2]
        simp only
        rw [run_fuel b (n + 1) n _ (by omega) (by omega), ih]
        simp
      · have ih := run_take b cut hc n (at_ + 1) (by omega) (by omega)
        have hr := run_range (b.take cut) n (at_ + 1) (by omega) (by omega)
        have e1 : run b (n + 1) at_ = run b n (at_ + 1) := by rw [run, if_pos (by omega), if_neg hg]
        have e2 : run (b.take cut) (n + 1) at_ = run (b.take cut) n (at_ + 1) := by rw [run, if_pos (by omega), hw, if_neg hg]
        rw [e1, e2, run_fuel b (n + 1) n _ (by omega) (by omega)]
        exact ih
    · rw [run_end (b := b.take cut) (by omega)]
      simp
theorem run_drop (b : List UInt8) (k : Nat) (hk : k ≤ b.length) : ∀ (n at_ : Nat), run (b.drop k) n at_ = ((run b n (k + at_)).1, (run b n (k + at_)).2 - k)
  | 0, at_ => by simp [run]
  | n + 1, at_ => by
    have hw : ((b.drop k).drop at_).take 24 = (b.drop (k + at_)).take 24 := by rw [List.drop_drop]
    have hl : (b.drop k).length = b.length - k := by simp
    by_cases h : k + at_ + 24 ≤ b.length
    · rw [run, if_pos (by omega), run, if_pos h, hw]
      split
      · rw [run_drop b k hk n (at_ + 24)]
        rfl
      · exact run_drop b k hk n (at_ + 1)
    · rw [run_end (by omega), run_end h]
      simp

theorem decode_divide (b : List UInt8) (cut : Nat) (hc : cut ≤ b.length) :
    (decode (b.take cut)).2.2 ≤ cut ∧ cut < (decode (b.take cut)).2.2 + 24 ∧ (decode b).1 = (decode (b.take cut)).1 ++ (decode (b.drop (decode (b.take cut)).2.2)).1 ∧
      (decode b).2.2 = (decode (b.take cut)).2.2 + (decode (b.drop (decode (b.take cut)).2.2)).2.2 := by
  have d : ∀ b : List UInt8, (decode b).1 = (run b (b.length + 1) 0).1 ∧ (decode b).2.2 = (run b (b.length + 1) 0).2 := by
    intro b
    have := scan_run b (b.length + 1) 0 [] []
    simpa [decode] using this
  have hl : (b.take cut).length = cut := by simp; omega
  have f1 : run (b.take cut) ((b.take cut).length + 1) 0 = run (b.take cut) (b.length + 1) 0 := run_fuel _ _ _ _ (by omega) (by omega)
  have hr := run_range (b.take cut) (b.length + 1) 0 (by omega) (by omega)
  have ht := run_take b cut hc (b.length + 1) 0 (by omega) (by omega)
  rw [(d (b.take cut)).1, (d (b.take cut)).2, f1, (d b).1, (d b).2]
  generalize hu : (run (b.take cut) (b.length + 1) 0).2 = used at *
  have hr2 := run_range b (b.length + 1) used (by omega) (by omega)
  have hd := run_drop b used (by omega) ((b.drop used).length + 1) 0
  have hdl : (b.drop used).length = b.length - used := by simp
  simp only [Nat.add_zero] at hd
  rw [run_fuel b ((b.drop used).length + 1) (b.length + 1) used (by omega) (by omega)] at hd
  rw [(d (b.drop used)).1, (d (b.drop used)).2, hd, ht]
  refine ⟨by omega, by omega, rfl, ?_⟩
  simp only
  omega
end Go.Proofs.Ytkgffhjlfdmfeaa
