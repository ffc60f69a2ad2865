/- The premiums: Mark. -/
import Derived.Test.YtefemdpicjgkeaaGreatDoorZ8Cnt
set_option linter.unusedSimpArgs false
set_option linter.unusedVariables false
set_option linter.unusedSectionVars false
namespace Go.Proofs.YtefemdpicjgkeaaGreatDoor
open Go Go.Abs
set_option linter.unusedSimpArgs false
set_option linter.unusedVariables false

/-- a premium -/
structure Pm where
  day : Int
  name : ByteArray
  min : Int
def Pm.cells (p : Pm) : List AVal := [.int .i64 p.day, .str p.name, .int .i64 p.min]
instance : Cel Pm := ⟨Pm.cells, 3, fun _ => rfl, fun _ => rfl, fun _ => rfl⟩
instance : Flt Pm := ⟨fun _ => rfl⟩
theorem cel_pm (p : Pm) : Cel.c p = [.int .i64 p.day, .str p.name, .int .i64 p.min] := rfl
theorem cel_pm_sz : Cel.sz Pm = 3 := rfl
attribute [go_sem] cel_pm_sz
theorem pm_snoc {l : List Pm} {d m : Int} {n : ByteArray} : els l ++ [[.int .i64 d, .str n, .int .i64 m]] = els (l ++ [⟨d, n, m⟩]) := els_snoc (x := Pm.mk d n m)

/-- the premiums of a day of the first n windows -/
def dayL (z : Zn) (h : List Hol) (ws : List Win) (ps : List Pc) (d : Int) : Nat → List Pm
  | 0 => []
  | n + 1 => dayL z h ws ps d n ++ if 0 < mn z h ws ps d n then [⟨d, (gw ws n).name, mn z h ws ps d n⟩] else []
def markL (z : Zn) (h : List Hol) (ws : List Win) (ps : List Pc) : List Pm := (srt (daysK ps)).flatMap fun d => dayL z h ws ps d ws.length
def preL (z : Zn) (h : List Hol) (ws : List Win) (ps : List Pc) (i : Nat) : List Pm := ((srt (daysK ps)).take i).flatMap fun d => dayL z h ws ps d ws.length
theorem preL_succ {z : Zn} {h : List Hol} {ws : List Win} {ps : List Pc} {i : Nat} (hi : i < (srt (daysK ps)).length) : preL z h ws ps (i + 1) = preL z h ws ps i ++ dayL z h ws ps (srt (daysK ps))[i] ws.length := by
  unfold preL
  rw [List.take_succ_eq_append_getElem hi, List.flatMap_append]; simp
theorem dayL_length (z : Zn) (h : List Hol) (ws : List Win) (ps : List Pc) (d : Int) : ∀ n : Nat, (dayL z h ws ps d n).length ≤ n
  | 0 => by simp [dayL]
  | n + 1 => by
    have := dayL_length z h ws ps d n
    rw [dayL, List.length_append]
    split <;> simp <;> omega
theorem preL_length {z : Zn} {h : List Hol} {ws : List Win} {ps : List Pc} : ∀ {i : Nat}, i ≤ (srt (daysK ps)).length → (preL z h ws ps i).length ≤ i * ws.length
  | 0, _ => by simp [preL]
  | i + 1, hi => by
    have ih := preL_length (z := z) (h := h) (ws := ws) (ps := ps) (i := i) (by omega)
    have := dayL_length z h ws ps (srt (daysK ps))[i] ws.length
    rw [preL_succ (by omega), List.length_append, Nat.add_mul]
    omega
theorem daysK_length (ps : List Pc) : (daysK ps).length ≤ ps.length := by
  have : ∀ (ps : List Pc) (ks : List Int), (ps.foldl (fun ks p => addK p.day ks) ks).length ≤ ks.length + ps.length := by
    intro ps
    induction ps with
    | nil => intro ks; simp
    | cons p ps ih =>
      intro ks
      rw [List.foldl_cons]
      have h1 := ih (addK p.day ks)
      have h2 : (addK p.day ks).length ≤ ks.length + 1 := by unfold addK; split <;> simp
      rw [List.length_cons]
      omega
  simpa [daysK] using this ps []

theorem keys_ok (ents : List (AVal × AVal)) : AFn Tryz.prog 23 [.mref 0] [.obj (.map false [.int .i64] ents)]
    (fun v rs => v = .fn 40 [.ref 1 1 0 0] ∧ rs = [.obj (.map false [.int .i64] ents), .live 62 1 [[.mref 0]]]) := by
  intro C cargs hr hok hG hrep
  rw [RepL] at hrep
  obtain ⟨v0, rest, rfl, hv, hn⟩ := hrep
  rw [RepL] at hn
  subst hn
  have hv' := hv
  rw [Rep] at hv
  obtain ⟨hpm, ⟨mb, rfl⟩, _, _⟩ := hv
  have hK := callsIn_wide.1 (AnyZI.keys_in laysKeys Fence.wide 5 trivial rfl (some mb) C.w)
  refine hK.mono ?_
  rintro e w' ⟨rfl, rfl⟩
  obtain ⟨k1, k2⟩ := cells_rep hv' (rfl : (acells (.mref 0)).all Abs.one = true)
  have hlen : C.rows.length = 1 := by rw [hr]; rfl
  have hp := push_row hok 62 1 1 #[.map (some mb)] [[.mref 0]] [.map (some mb)] (C.w.alloc (.cells #[.map (some mb)] 62)) ⟨rfl, rfl, rfl, rfl⟩ (by simp) (by simp [maxLen]) (by simp) (elems_one rfl k1 k2) rfl
  refine ⟨_, .fn 40 [.ref 1 1 0 0], _, rfl, rfl, ?_, hp.1, by rw [← hr]; exact hp.2, rfl, by rw [hr]; rfl⟩
  rw [Rep]
  refine ⟨_, rfl, ?_⟩
  rw [RepL]
  refine ⟨_, [], rfl, ?_, by rw [RepL]⟩
  have h1 := new_ref (rows := C.rows) (phi := C.phi) (om := C.om) (w := C.w.alloc (.cells #[.map (some mb)] 62)) (e := 62) (sz := 1) (b := C.w.heap.size) (cap := 1) (cells := [.mref 0]) hok.plen
  rw [hlen] at h1
  rw [hok.pm]
  exact h1

def markE (z : Zn) (h : List Hol) (ws : List Win) (ps : List Pc) : Int := if vldE z h ws = 0 then pcE ps else vldE z h ws
theorem Mark_ok (z : Zn) (h : List Hol) (hl : h.length ≤ 9223372036854775806) (ws : List Win) (hwl : ws.length ≤ 1000000) (ps : List Pc) (hpl : ps.length ≤ 1000000) :
    AFn Tryz.prog 12 [z.v, .pure 6 (els h), .pure 7 (els ws), .pure 4 (els ps)] []
      (fun v rs => if markE z h ws ps = 0 then v = .tup [.own 0 (markL z h ws ps).length 0 (markL z h ws ps).length, .int .i64 0] ∧ rs = [.live 70 3 (els (markL z h ws ps))] else v = .tup [.nils, .int .i64 (markE z h ws ps)] ∧ rs = []) := by
  refine afn Tryz.func12 a12_ok (by simp [a12]) ?_
  unfold markE
  simp only [go_sem,a12,a12r0,a12r1,a12r2,a12r3,a12r4,a12r5,a12r6,a12r7,a12r8,a12r9,a12r10,a12r11,a12r12,a12r13,a12r14,a12r15,a12r16,a12r17,a12r18,a12r19,a12r20,Zn.v]
  refine callC_det (PValid_ok z h hl ws hwl) rfl rfl ?_
  by_cases hv : vldE z h ws = 0
  rotate_left
  · have hv' : (vldE z h ws != 0) = true := by simp [hv]
    simp only [go_sem,a12,a12r0,a12r1,a12r2,a12r3,a12r4,a12r5,a12r6,a12r7,a12r8,a12r9,a12r10,a12r11,a12r12,a12r13,a12r14,a12r15,a12r16,a12r17,a12r18,a12r19,a12r20,hv']
    exact Cl.fin rfl (by simp [hv])
  obtain ⟨k1, k2, k3, k4⟩ := vldE_zero hv
  rw [hv]
  simp only [go_sem,a12,a12r0,a12r1,a12r2,a12r3,a12r4,a12r5,a12r6,a12r7,a12r8,a12r9,a12r10,a12r11,a12r12,a12r13,a12r14,a12r15,a12r16,a12r17,a12r18,a12r19,a12r20]
  refine callC_det (checkPieces_ok ps hpl) rfl rfl ?_
  by_cases hp : pcE ps = 0
  rotate_left
  · have hp' : (pcE ps != 0) = true := by simp [hp]
    simp only [go_sem,a12,a12r0,a12r1,a12r2,a12r3,a12r4,a12r5,a12r6,a12r7,a12r8,a12r9,a12r10,a12r11,a12r12,a12r13,a12r14,a12r15,a12r16,a12r17,a12r18,a12r19,a12r20,hp']
    exact Cl.fin rfl (by simp [hp])
  rw [hp]
  have hps : ps.length ≤ 4096 := by
    unfold pcE at hp
    split at hp
    · cases hp
    · omega
  have hdl := daysK_length ps
  have hsl := srt_length (daysK ps)
  have hwf : ∀ x ∈ daysK ps, (Lit.int .i64 x).wf = true := fun x hx => by
    obtain ⟨q, hq, rfl⟩ := daysK_mem.1 hx
    have h2 : ∀ p ∈ ps, pcOk p := by
      unfold pcE at hp
      split at hp
      · cases hp
      · split at hp
        · assumption
        · cases hp
    have := h2 q hq
    unfold pcOk at this
    show (decide (IntKind.i64.min ≤ q.day) && decide (q.day ≤ IntKind.i64.max)) = true
    rw [Bool.and_eq_true, decide_eq_true_eq, decide_eq_true_eq]
    show -9223372036854775808 ≤ q.day ∧ q.day ≤ 9223372036854775807
    omega
  have hcm := mapM_clean z h ws ps (daysK ps)
  simp only [go_sem,a12,a12r0,a12r1,a12r2,a12r3,a12r4,a12r5,a12r6,a12r7,a12r8,a12r9,a12r10,a12r11,a12r12,a12r13,a12r14,a12r15,a12r16,a12r17,a12r18,a12r19,a12r20]
  refine callC_of [] [] (by decide) rfl rfl (count_ok z k1 h k2 ws k3 k4 ps hp) ?_
  rintro _ _ ⟨rfl, rfl⟩
  refine ⟨.inl rfl, ?_⟩
  simp only [go_sem,a12,a12r0,a12r1,a12r2,a12r3,a12r4,a12r5,a12r6,a12r7,a12r8,a12r9,a12r10,a12r11,a12r12,a12r13,a12r14,a12r15,a12r16,a12r17,a12r18,a12r19,a12r20,mnR]
  (refine callC_of [1] [] (by decide) (by simp only [go_sem] <;> rfl) (by simp only [go_sem] <;> rfl) (keys_ok (mapF (mnV z h ws ps) (daysK ps))) ?_; rintro _ _ ⟨rfl,rfl⟩; refine ⟨.inl rfl,?_⟩; simp only [go_sem])
  (refine callC_of [1,2] [] (by decide) (by simp only [go_sem] <;> rfl) (by simp only [go_sem] <;> rfl) (sortedKeys_ok 62 (mapF (mnV z h ws ps) (daysK ps)) (daysK ps) (by simp [mapF]) (daysK_nodup ps) hwf (by omega)) ?_; rintro _ _ ⟨rfl,rfl⟩; refine ⟨.inl rfl,?_⟩; simp only [go_sem])
  have hKl : (srt (daysK ps)).length ≤ 4096 := by omega
  have hmk : markL z h ws ps = preL z h ws ps (srt (daysK ps)).length := by unfold markL preL; rw [List.take_length]
  have hpre := fun i (hi : i < (srt (daysK ps)).length) => preL_succ (z := z) (h := h) (ws := ws) hi
  have hprl := fun i (hi : i ≤ (srt (daysK ps)).length) => preL_length (z := z) (h := h) (ws := ws) hi
  rw [hmk]
  have hmem : ∀ x ∈ srt (daysK ps), x ∈ daysK ps := fun x hx => (srt_mem _ x).1 hx
  generalize srt (daysK ps) = K at hKl hmk hpre hprl hmem ⊢
  refine avc_loop (fun env rows => ∃ (i : Nat), i ≤ K.length ∧ env = [(2, .pure 7 (els ws)), (12, .mref 1), (13, .own 3 (preL z h ws ps i).length 0 (preL z h ws ps i).length), (38, .pure 1 (numsE .i64 K)), (39, .int .i64 K.length), (40, .int .i64 i)] ∧
      rows = [.live 27 2 [[.int .i64 z.off, .pure 2 (els z.ch)]], .obj (.map false [.int .i64] (mapF (mnV z h ws ps) (daysK ps))), .live 62 1 [[.mref 1]], .live 70 3 (els (preL z h ws ps i))])
    (fun env _ => match slot env 40 with | .int _ j => (K.length - j).toNat | _ => 0) ?_ ?_
  · (refine Cl.ghost 13  70  3 rfl (Cl.norm [ 2,12,13,38,39,40] ?_); simp only [go_sem])
    exact Cl.here ⟨0, by omega, by simp [preL], by simp [preL, els]⟩
  · rintro env rows ⟨i, hi, rfl, rfl⟩
    have hwi : IntKind.i64.wrap ((i : Int) + 1) = ((i + 1 : Nat) : Int) := by rw [wrap_i64 (by omega) (by omega)]; omega
    simp only [go_sem,a12,a12r0,a12r1,a12r2,a12r3,a12r4,a12r5,a12r6,a12r7,a12r8,a12r9,a12r10,a12r11,a12r12,a12r13,a12r14,a12r15,a12r16,a12r17,a12r18,a12r19,a12r20]
    refine condC_intro ?_ ?_ <;> intro hg2 <;> simp only [decide_eq_true_eq,decide_eq_false_iff_not,beq_iff_eq,beq_eq_false_iff_ne,bne_iff_ne,bne_eq_false_iff_eq,Bool.not_eq_true',Bool.not_eq_false',Int.not_lt,Int.not_le,ne_eq,Bool.and_eq_true,Bool.or_eq_true,Bool.or_eq_false_iff,Bool.and_eq_false_iff] at hg2 <;> simp only [go_sem,a12,a12r0,a12r1,a12r2,a12r3,a12r4,a12r5,a12r6,a12r7,a12r8,a12r9,a12r10,a12r11,a12r12,a12r13,a12r14,a12r15,a12r16,a12r17,a12r18,a12r19,a12r20]
    · have hlt : i < K.length := by omega
      refine ⟨by omega, by omega, ?_⟩
      try simp only [Int.toNat_natCast]
      rw [numsE_getD hlt, show K.getD i 0 = K[i] by simp [List.getD_eq_getElem?_getD, hlt]]
      have hps2 := hpre i hlt
      have hpl2 := hprl i (by omega)
      have hd := hmem _ (List.getElem_mem hlt)
      have hdl2 := fun n => dayL_length z h ws ps K[i] n
      generalize K[i] = d at hps2 hd hdl2 ⊢
      generalize hLe : preL z h ws ps i = L at hps2 hpl2 ⊢
      have hL1 : L.length ≤ 65536 := by
        have : i * ws.length ≤ 4096 * 16 := Nat.mul_le_mul (by omega) k3
        omega
      simp only [go_sem,a12,a12r0,a12r1,a12r2,a12r3,a12r4,a12r5,a12r6,a12r7,a12r8,a12r9,a12r10,a12r11,a12r12,a12r13,a12r14,a12r15,a12r16,a12r17,a12r18,a12r19,a12r20]
      rw [if_pos hd, Option.getD_some, show acells (mnV z h ws ps d) = arr (mn z h ws ps d) from rfl]
      refine ⟨arr_length _, by simp [arr, List.range, List.range.loop, Abs.one], ?_⟩
      have htk16 : splice [AVal.int .i64 0, .int .i64 0, .int .i64 0, .int .i64 0, .int .i64 0, .int .i64 0, .int .i64 0, .int .i64 0, .int .i64 0, .int .i64 0, .int .i64 0, .int .i64 0, .int .i64 0, .int .i64 0, .int .i64 0, .int .i64 0] 0 (arr (mn z h ws ps d)) = arr (mn z h ws ps d) := by
        unfold splice; simp [arr_length]
      refine avc_loop (fun env rows => ∃ (j : Nat), j ≤ ws.length ∧ env = [(2, .pure 7 (els ws)), (12, .mref 1), (13, .own 3 (L ++ dayL z h ws ps d j).length 0 (L ++ dayL z h ws ps d j).length), (15, .int .i64 d), (16, .ref 4 1 0 0), (38, .pure 1 (numsE .i64 K)), (39, .int .i64 K.length), (40, .int .i64 i), (47, .pure 7 (els ws)), (48, .int .i64 ws.length), (49, .int .i64 j)] ∧
          rows = [.live 27 2 [[.int .i64 z.off, .pure 2 (els z.ch)]], .obj (.map false [.int .i64] (mapF (mnV z h ws ps) (daysK ps))), .live 62 1 [[.mref 1]], .live 70 3 (els (L ++ dayL z h ws ps d j)), .live 68 16 [arr (mn z h ws ps d)]])
        (fun env _ => match slot env 49 with | .int _ j => (ws.length - j).toNat | _ => 0) ?_ ?_
      · refine Cl.here ⟨0, by omega, by simp [dayL], ?_⟩
        simp [dayL, arr_length]
      · rintro env rows ⟨j, hj, rfl, rfl⟩
        have hwj : IntKind.i64.wrap ((j : Int) + 1) = ((j + 1 : Nat) : Int) := by rw [wrap_i64 (by omega) (by omega)]; omega
        simp only [go_sem,a12,a12r0,a12r1,a12r2,a12r3,a12r4,a12r5,a12r6,a12r7,a12r8,a12r9,a12r10,a12r11,a12r12,a12r13,a12r14,a12r15,a12r16,a12r17,a12r18,a12r19,a12r20]
        refine condC_intro ?_ ?_ <;> intro hg3 <;> simp only [decide_eq_true_eq,decide_eq_false_iff_not,beq_iff_eq,beq_eq_false_iff_ne,bne_iff_ne,bne_eq_false_iff_eq,Bool.not_eq_true',Bool.not_eq_false',Int.not_lt,Int.not_le,ne_eq,Bool.and_eq_true,Bool.or_eq_true,Bool.or_eq_false_iff,Bool.and_eq_false_iff] at hg3 <;> simp only [go_sem,a12,a12r0,a12r1,a12r2,a12r3,a12r4,a12r5,a12r6,a12r7,a12r8,a12r9,a12r10,a12r11,a12r12,a12r13,a12r14,a12r15,a12r16,a12r17,a12r18,a12r19,a12r20]
        · have hjl : j < ws.length := by omega
          refine ⟨by omega, by omega, ?_⟩
          try simp only [Int.toNat_natCast]
          rw [els_getD hjl, ← gw_get hjl]
          have hds : dayL z h ws ps d (j + 1) = dayL z h ws ps d j ++ if 0 < mn z h ws ps d j then [⟨d, (gw ws j).name, mn z h ws ps d j⟩] else [] := rfl
          have hj0 : (0 : Int) ≤ j := by omega
          have hj16 : (j : Int) < 16 := by omega
          have hget : (arr (mn z h ws ps d)).getD (j * 1) AVal.junk = .int .i64 (mn z h ws ps d j) := by rw [Nat.mul_one, arr_get (by omega)]
          generalize gw ws j = w at hds ⊢
          simp only [go_sem,a12,a12r0,a12r1,a12r2,a12r3,a12r4,a12r5,a12r6,a12r7,a12r8,a12r9,a12r10,a12r11,a12r12,a12r13,a12r14,a12r15,a12r16,a12r17,a12r18,a12r19,a12r20,cel_win]
          refine ⟨hj0, hj16, by omega, ?_⟩
          rw [hget]
          by_cases hm : mn z h ws ps d j > 0
          · rw [if_pos hm] at hds
            simp only [go_sem,a12,a12r0,a12r1,a12r2,a12r3,a12r4,a12r5,a12r6,a12r7,a12r8,a12r9,a12r10,a12r11,a12r12,a12r13,a12r14,a12r15,a12r16,a12r17,a12r18,a12r19,a12r20,hm,hj0,hj16,hget,Int.toNat_natCast]
            have hd3 := hdl2 j
            refine ⟨by omega, by rw [List.length_append]; omega, ?_⟩
            rw [hwj, pm_snoc, List.append_assoc, ← hds]
            have hln : (L ++ dayL z h ws ps d j).length + 1 = (L ++ dayL z h ws ps d (j + 1)).length := by rw [hds]; simp; omega
            rw [hln]
            (refine Cl.tr [some 0,some 1,some 2,some 3,some 4] [] rfl rfl (by simp only [go_sem] <;> rfl) ?_; simp only [go_sem])
            refine Cl.here ⟨⟨j + 1, by omega, rfl, rfl⟩, ?_⟩
            simp only [go_sem]
            omega
          · rw [if_neg hm, List.append_nil] at hds
            simp only [go_sem,a12,a12r0,a12r1,a12r2,a12r3,a12r4,a12r5,a12r6,a12r7,a12r8,a12r9,a12r10,a12r11,a12r12,a12r13,a12r14,a12r15,a12r16,a12r17,a12r18,a12r19,a12r20,hm,hwj]
            (refine Cl.tr [some 0,some 1,some 2,some 3,some 4] [] rfl rfl (by simp only [go_sem] <;> rfl) ?_; simp only [go_sem])
            refine Cl.here ⟨⟨j + 1, by omega, by rw [hds], by rw [hds]⟩, ?_⟩
            simp only [go_sem]
            omega
        · obtain rfl : j = ws.length := by omega
          rw [hwi]
          rw [← hps2]
          (refine Cl.tr [some 0,some 1,some 2,some 3] [] rfl rfl (by simp only [go_sem] <;> rfl) ?_; simp only [go_sem])
          refine Cl.here ⟨⟨i + 1, by omega, rfl, rfl⟩, ?_⟩
          simp only [go_sem]
          omega
    · obtain rfl : i = K.length := by omega
      (refine Cl.tr [some 3] [] rfl rfl (by simp only [go_sem] <;> rfl) ?_; simp only [go_sem])
      exact Cl.here ⟨rfl, rfl⟩

end Go.Proofs.YtefemdpicjgkeaaGreatDoor
