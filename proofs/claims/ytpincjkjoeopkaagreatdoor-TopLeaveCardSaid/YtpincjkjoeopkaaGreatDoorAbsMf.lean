/- Abs45, Abs46 joined. -/
import Derived.Shelf.SlIterI.Collect
import Derived.RangeFuncGives
import Derived.Test.YtpincjkjoeopkaaGreatDoorAbsMd
import Derived.Laws.AppendOwn
set_option linter.unusedSimpArgs false
set_option linter.unusedVariables false
set_option linter.unusedSectionVars false
section
/- maps.Keys over keys of whatever type: what comes (after the kit's shelf, whose keys are ints or strings). -/
namespace Go.Proofs
open Go.RowKit Go.Maps Go.Sort Go.Shelf

variable {P : Program}

/-- the keys that have come: each once -/
def CollectedK {H : Type} (P : Program) (k : TypeId) (D0 : DataW H) (left : Lit → Bool) (ss : List Value) : Prop :=
  ss.Nodup ∧ ∀ x, x ∈ ss ↔ ∃ l, keyOf P k x = some l ∧ has D0 l = true ∧ left l = false

theorem CollectedK.start {H : Type} (k : TypeId) (D0 : DataW H) : CollectedK P k D0 (has D0) [] :=
  ⟨List.nodup_nil, fun x => ⟨fun h => by simp at h, fun ⟨l, _, h1, h2⟩ => by rw [h1] at h2; cases h2⟩⟩

theorem CollectedK.step {H : Type} {k : TypeId} (K : Keyed P k) {D0 : DataW H} {left : Lit → Bool} {ss : List Value} (h : CollectedK P k D0 left ss) {x : Value} {l : Lit} {y : DataW H} (hx : keyOf P k x = some l) (hlk : left l = true) (hat : ∀ zd, D0.atKey l zd = y) :
    CollectedK P k D0 (fun z => left z && !z.sameKey l) (ss ++ [x]) := by
  have hhas : has D0 l = true := has_true_of_atKey hat
  have hnew : x ∉ ss := fun hm => by
    obtain ⟨l', h1, _, h3⟩ := (h.2 x).1 hm
    rw [hx] at h1; cases h1
    rw [hlk] at h3; cases h3
  refine ⟨List.nodup_append.2 ⟨h.1, by simp, fun a ha b hb => by simp at hb; subst hb; exact fun e => hnew (e ▸ ha)⟩, fun y => ?_⟩
  rw [List.mem_append, List.mem_singleton, h.2 y]
  constructor
  · rintro (⟨l', h1, h2, h3⟩ | rfl)
    · exact ⟨l', h1, h2, by simp [h3]⟩
    · refine ⟨l, hx, hhas, ?_⟩
      simp [WideAt.sameKey_self (K.key hx)]
  · rintro ⟨l', h1, h2, h3⟩
    by_cases hl : left l' = true
    · right
      simp only [hl, Bool.true_and, Bool.not_eq_false'] at h3
      cases WideAt.sameKey_eq h3
      exact K.inj h1 hx
    · left; exact ⟨l', h1, h2, by simpa using hl⟩

theorem cell_two_new (w : World) (x y : Value) (t : TypeId) : ∀ j u, [x, y][j]? = some u → (w.alloc (.cells #[x, y] t)).cell? ((⟨w.heap.size, 0, none⟩ : Addr).add j) = some u := by
  intro j u hj
  match j, hj with
  | 0, hj => simp at hj; subst hj; simp [Addr.add]
  | 1, hj => simp at hj; subst hj; simp [Addr.add]

def kcells (ss : List Value) : List Value := ss.flatMap fun x => x.cells.toList
/-- what an iterator over keys gives -/
def KGives (P : Program) (k : TypeId) (F : Fence) (n : Nat) (g : Nat) (lb : Array Value) (S : List Value → Prop) (N : Nat) (w : World) : Prop :=
  ∀ (l : Nat) (J : List Value → World → Prop) (W : World), Below w.heap.size w W → AbidesFrom W.heap.size J →
    (∀ pre x W1, J pre W1 → pre.length < N → (∃ kl, keyOf P k x = some kl) → YieldAt F (n - 1) P l #[x] W1 fun e W' => e = .returned (.bool true) ∧ J (pre ++ [x]) W' ∧ KeepsWalks W1 W') →
    J [] W →
    CallsIn F n P g (#[.func (.yield l) #[] #[]] ++ lb) W fun e W' => (∃ v, e = .returned v) ∧ ∃ xs, S xs ∧ J xs W'

end Go.Proofs
end

section
/- A contract from elsewhere that hands back a new row. -/
namespace Go.Abs
open Go.RowKit (Below)
variable [Glb]

/-- a row in memory that was born since -/
theorem new_row {C : Ctx} (h : Ok C) (e : TypeId) (sz g cap : Nat) (cs : Array Value) (vals : List (List AVal)) (vs : List Value) (w' : World) (hb : Below C.w.heap.size C.w w') (hg0 : C.w.heap.size ≤ g) (hnew : w'.heap[g]? = some (.cells cs e (0, 0)))
    (hs : cs.size = cap * sz) (hm : cap ≤ maxLen) (hv : vals.length ≤ cap) (he : Elems C sz vals vs) (ht : cs.toList.take vs.length = vs) (hd : Dr.d → C.w.drawn ≤ w'.drawn) :
    Ok ⟨C.rows ++ [.live e sz vals], C.phi ++ [some (g, cap)], C.om, w', C.pm⟩ ∧
    Later C.rows.length C ⟨C.rows ++ [.live e sz vals], C.phi ++ [some (g, cap)], C.om, w', C.pm⟩ := by
  have hold : ∀ b, b < C.w.heap.size → w'.heap[b]? = C.w.heap[b]? := fun b hl => hb.block b hl
  have later : Later C.rows.length C ⟨C.rows ++ [.live e sz vals], C.phi ++ [some (g, cap)], C.om, w', C.pm⟩ := by
    refine ⟨hb.os, hb.tape, hb.output, hb.size, fun b hb _ => hold b hb, fun r b c hr => ?_, _root_.id rfl, _root_.id rfl, by simp, fun r e' sz' vals' hr hv' => ?_, fun r o' hr hv' => ?_, hd⟩
    · simp only [List.getElem?_append] at hr
      split at hr
      · exact .inl ⟨r, c, hr⟩
      · right
        rename_i hlt
        cases hk : r - C.phi.length with
        | zero => rw [hk] at hr; simp at hr; omega
        | succ k => rw [hk] at hr; simp at hr
    · simp only [List.getElem?_append, hr, if_true] at hv'
      refine ⟨vals', hv', Nat.le_refl _, fun _ => ?_⟩
      simp only [List.getElem?_append]
      rw [if_pos (by rw [h.plen]; exact hr)]
    · simp only [List.getElem?_append, hr, if_true] at hv'
      refine ⟨o', hv', ?_⟩
      simp only [List.getElem?_append]
      rw [if_pos (by rw [h.plen]; exact hr)]
  have hext := later.ext
  refine ⟨⟨h.pm, by simp [h.plen], fun r row hr => ?_, fun r r' b c c' h1 h2 => ?_, fun b hb => Nat.lt_of_lt_of_le (h.om b hb) later.size⟩, later⟩
  · simp only [List.getElem?_append] at hr
    split at hr
    · rename_i hlt
      refine RowOk.move hext (_root_.id rfl) ?_ (fun b c hb => hold b (h.lt hb)) (h.rows r row hr)
      simp only [List.getElem?_append]
      rw [if_pos (by rw [h.plen]; exact hlt)]
    · rename_i hlt
      have hk : r = C.rows.length := by
        cases hk : r - C.rows.length with
        | zero => omega
        | succ k => rw [hk] at hr; simp at hr
      subst hk
      simp at hr
      subst hr
      rw [RowOk]
      refine ⟨some (g, cap), ?_, fun ho => ?_, cs, hnew, hs, hm, hv, (he.ext hext).repE (cellsAt_row hnew ht)⟩
      · simp [h.plen.symm]
      · have := h.om _ ho; omega
  · simp only [List.getElem?_append] at h1 h2
    have last : ∀ {r : Nat} {b c : Nat}, ¬ r < C.phi.length → [some (g, cap)][r - C.phi.length]? = some (some (b, c)) → r = C.phi.length ∧ b = g := by
      intro r b c hr hh
      cases hk : r - C.phi.length with
      | zero => rw [hk] at hh; simp at hh; exact ⟨by omega, hh.1.symm⟩
      | succ k => rw [hk] at hh; simp at hh
    split at h1 <;> split at h2
    · exact h.inj r r' b c c' h1 h2
    · rename_i hr'
      obtain ⟨_, hb⟩ := last hr' h2
      have := h.lt h1; omega
    · rename_i hr _
      obtain ⟨_, hb⟩ := last hr h1
      have := h.lt h2; omega
    · rename_i hr hr'
      rw [(last hr h1).1, (last hr' h2).1]

/-- .. where what comes back is a slice in new memory -/
theorem AFn.leafO {P : Program} {f : FuncId} {args : List AVal} {rows : List Row} {Q : AVal → List Row → Prop} (h0 : ¬ Dr.d)
    (h : ∀ (C : Ctx) (cargs : List Value), C.rows = rows → Ok C → GOk C → RepL C args cargs → Calls P f cargs.toArray C.w fun e w' => ∃ (cv : Value) (T : TypeId) (sz : Nat) (l : List (List AVal)) (vs : List Value),
      e = .returned cv ∧ Below C.w.heap.size C.w w' ∧ w'.ownsRow C.w.heap.size T sz cv l.length vs ∧ Elems C sz l vs ∧ Q (.own rows.length l.length 0 l.length) (rows ++ [.live T sz l])) : AFn P f args rows Q := by
  intro C cargs hr hok hG hrep
  refine (h C cargs hr hok hG hrep).mono ?_
  rintro e w' ⟨cv, T, sz, l, vs, rfl, hb, hown, hel, hq⟩
  subst hr
  obtain ⟨hlen, ⟨rfl, hl0⟩ | ⟨g, cap, cur, rfl, hg0, hheap, hle, hm, hcs, htk⟩⟩ := hown
  · obtain ⟨k1, k2⟩ := below_ok hok hb (fun d => absurd d h0)
    have hl : l = [] := List.length_eq_zero_iff.1 hl0
    subst hl
    obtain ⟨k3, k4⟩ := push_nil k1 T sz
    refine ⟨_, .own C.rows.length 0 0 0, _, _root_.id rfl, _root_.id rfl, ?_, k3, k2.trans k4 (Nat.le_refl _), hq⟩
    rw [Rep]
    refine ⟨hok.pm, ⟨_, _, _root_.id rfl⟩, by simp, fun e2 sz2 vals2 hv => ?_⟩
    simp at hv
    obtain ⟨rfl, rfl, rfl⟩ := hv
    exact ⟨by simp, fun _ => ⟨by simp, none, by simp [← hok.plen], ⟨_, _root_.id rfl⟩, _root_.id rfl, _root_.id rfl⟩⟩
  · have hvl : vs.length = l.length * sz := hlen
    obtain ⟨k1, k2⟩ := new_row hok T sz g cap cur l vs w' hb hg0 hheap hcs hm hle hel (by rw [hvl]; exact htk) (fun d => absurd d h0)
    refine ⟨_, .own C.rows.length l.length 0 l.length, _, _root_.id rfl, _root_.id rfl, ?_, k1, k2, hq⟩
    rw [hok.pm]
    exact new_own hok.plen hle

end Go.Abs
end
