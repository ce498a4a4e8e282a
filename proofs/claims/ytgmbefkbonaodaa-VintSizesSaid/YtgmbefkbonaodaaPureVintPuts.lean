/- VintPuts: a number laid behind bytes is its digits to the base 128, at most ten; it is read again, whatever stands around it. For all numbers and bytes. -/
import Derived.Test.YtgmbefkbonaodaaQVx3
import Derived.Test.YtgmbefkbonaodaaVDig
import Derived.Test.YtgmbefkbonaodaaPureVintSums
namespace Go.Proofs.Ytgmbefkbonaodaa.Pure
open Go.RowKit Go.Proofs.Ytgmbefkbonaodaa.QV Go.Proofs.Ytgmbefkbonaodaa.VSum Go.Proofs.Ytgmbefkbonaodaa.VDig Go.Proofs.YtgmbefkbonaodaaW.PrintWords Go.Proofs.YtgmbefkbonaodaaW.PrintLast Go.Proofs.YtgmbefkbonaodaaW.PrintMore

theorem num_of {a : Int} (h : (Lit.int .u64 a).wf = true) : ∃ n : Nat, a = (n : Int) ∧ n < 18446744073709551616 := by
  simp [Lit.wf, IntKind.min, IntKind.max, IntKind.signed, IntKind.bits] at h
  exact ⟨a.toNat, by omega, by omega⟩

theorem VintPuts : catchwordlaw01_VintPuts.Pure := by
  intro l0 a1 l2 _ _ g0 g1 _ _ g2
  have h0 := bytes_of g0
  have h2 := bytes_of g2
  obtain ⟨n, rfl, hn⟩ := num_of g1
  refine ⟨1000, ?_⟩
  unfold catchwordlaw01_VintPuts.f catchwordlaw01_head.f
  simp only [Option.bind_some, if_true]
  by_cases c1 : (l0.length : Int) > 100
  · rw [if_pos c1]; simp only [catchwordlaw01_VintPuts.j0, if_true]
  rw [if_neg c1]
  by_cases c2 : (l2.length : Int) > 100
  · rw [decide_eq_true c2]; simp only [catchwordlaw01_VintPuts.j0, if_true]
  rw [decide_eq_false c2]
  simp only [catchwordlaw01_VintPuts.j0]
  have hl := D_len n hn
  have hb := D_bytes n hn
  have hb2 : Bytes (D n ++ l2) := by
    intro x hx
    rcases List.mem_append.1 hx with hx | hx
    · exact hb x hx
    · exact h2 x hx
  rw [if_neg (by decide)]
  simp only [Option.bind_some, List.nil_append, List.length_nil]
  rw [if_pos (by omega), Put_spec l0 (by omega) n hn]
  simp only [Option.bind_some]
  rw [putlaw_spec n _ hn (by decide)]
  simp only [Option.bind_some]
  rw [if_pos (by rw [strOfNums_size, strOfNums_size]; omega), str_app, if_pos rfl, if_pos (by omega), if_pos (by rw [List.length_append]; omega), Int.toNat_natCast, List.drop_left]
  rw [if_pos (by omega), if_pos (by omega), Get_spec _ hb2 (by rw [List.length_append]; omega) _ (by rw [List.length_append]; omega), get_D n hn l2]
  simp only [Option.bind_some]
  have hw : wrap64 (((l0 ++ D n).length : Int) - (l0.length : Int)) = ((D n).length : Int) := by
    rw [List.length_append]; unfold wrap64; omega
  rw [if_pos trivial, hw, if_pos rfl]
  congr 1
  exact decide_eq_true (by omega)
end Go.Proofs.Ytgmbefkbonaodaa.Pure
