/- slices.SortedFunc over the keys of the absences' map. -/
import Derived.Test.YtpincjkjoeopkaaGreatDoorF9Srt
set_option linter.unusedSimpArgs false
set_option linter.unusedVariables false
set_option linter.unusedSectionVars false
namespace Go.Proofs.YtpincjkjoeopkaaGreatDoor
open Go Go.Abs
set_option linter.unusedSimpArgs false
set_option linter.unusedVariables false

theorem ba_ext {a b : ByteArray} (h : a.toList = b.toList) : a = b := by
  have e : ∀ x : ByteArray, x.toList = x.data.toList := fun x => ByteArray.toList_eq x
  rw [e, e] at h
  cases a; cases b
  congr 1
  exact Array.toList_inj.1 h
theorem ak_tri {a b : AKey} (h : ¬ akLt a b) (hne : a ≠ b) : akLt b a := by
  unfold akLt at *
  rcases Int.lt_trichotomy a.d b.d with h1 | h1 | h1
  · exact absurd (.inl h1) h
  · by_cases h2 : a.n.toList < b.n.toList
    · exact absurd (.inr ⟨h1, h2⟩) h
    · rcases bl_tri h2 with h3 | h3
      · refine absurd ?_ hne
        cases a; cases b
        simp only at h1 h3
        rw [h1, ba_ext h3]
      · exact .inr ⟨h1.symm, h3⟩
  · exact .inl h1
theorem inAll_snoc {rows : List Row} {x : Row} (h : inAll rows) (hx : inRow (rows.length + 1) x = true) : inAll (rows ++ [x]) := inAll_app h (by simpa using hx)

theorem sortedK_ok {rows : List Row} {a b : Nat} {T : TypeId} {ents : List (AVal × AVal)} {ks : List AKey} (hr : inAll rows) (ha : rows[a]? = some (.obj (.map true [.int .i64, .str] ents))) (hb : rows[b]? = some (.live T 1 [[.mref a]])) (hk : ents.map (·.1) = keysA ks) (hnd : ks.Nodup)
    (hwf : ∀ x ∈ ks, (Lit.int .i64 x.d).wf = true ∧ x.n.size ≤ maxLen) (hlen : ks.length ≤ 1000000) :
    AFn Tryz.prog 120 [.fn 207 [.ref b 1 0 0], .fn 122 []] rows
      (fun v rs => ∃ l : List AKey, l.Perm ks ∧ l.Pairwise akLt ∧ v = .own rows.length l.length 0 l.length ∧ rs = rows ++ [.live 235 2 (els l)]) := by
  refine afn Tryz.func120 a120_ok (by simp [a120, s120]) ?_
  have hbl : b < rows.length := (List.getElem?_eq_some_iff.1 hb).1
  simp only [go_sem,a120,s120]
  refine callC_all hr (by simp [inL, inV, hbl]) (collectK_ok ha hb hk hnd hwf hlen) ?_
  rintro _ _ ⟨l, hl, rfl, rfl⟩
  refine ⟨by simp, ?_⟩
  simp only [go_sem]
  refine callC_of [rows.length] [] (by simp) (by simp only [go_sem,app_at0] <;> rfl) (by simp only [go_sem] <;> rfl) (sortK_ok l (by rw [hl.length_eq]; omega)) ?_
  rintro _ _ ⟨rfl, l', h1, h2, rfl⟩
  refine ⟨.inl rfl, ?_⟩
  simp only [go_sem,app_set0]
  have hn : l'.Nodup := (h1.trans hl).nodup_iff.2 hnd
  refine Cl.here ⟨l', h1.trans hl, ?_, by rw [h1.length_eq]; rfl, rfl⟩
  exact (h2.and hn).imp fun h => ak_tri h.1 (fun e => h.2 e.symm)

end Go.Proofs.YtpincjkjoeopkaaGreatDoor
