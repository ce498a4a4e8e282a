/- The heap of rows behind container/heap's interface: how its methods are found, what a heap in memory is, and the contracts of Less, Swap, up and down over it. Conditions as each theorem has them. -/
import Derived.Test.YtgefggokgjneoaaQTx1
import Derived.Test.YtgefggokgjneoaaQTx2
namespace Go.Proofs.Ytgefggokgjneoaa.QT
open Go.RowKit Go.Proofs.YtgefggokgjneoaaW.PrintWords Go.Proofs.YtgefggokgjneoaaW.PrintLast Go.Proofs.YtgefggokgjneoaaW.PrintMore
attribute [local go_sem] max2_int min2_int max_two min_two max_three min_three max_four min_four   -- for this text's walks alone
set_option linter.unusedVariables false
set_option linter.unusedSimpArgs false
theorem wrapnil (P : Program) (ts : Array TypeId) (t : TypeId) (a : Addr) (s n : String) (W : World) : (Builtin.ssaWrapNilChk_ ts t #[.pointer (some a), strVal s, strVal n]).run P W = .ok (.pointer (some a)) W := rfl
theorem meth (s : String) (m : Method) (g : Nat) (v : Value) (W : World) (hm : (Try.prog.info? 45).map (fun i => i.methods.find? (·.name == s)) = some (some m)) (k : Nat) (f : FuncId) (hp : m.path = #[]) (hf : m.func = some (f, false))
    (hl : (loadVar 41 ⟨g, 0, none⟩).run Try.prog W = .ok v W) : (method (k + 1) 45 (.pointer (some ⟨g, 0, none⟩)) s).run Try.prog W = .ok (f, v) W := by
  obtain ⟨i, hi, hmm⟩ := Option.map_eq_some_iff.1 hm
  unfold method
  simp [typeInfo, hi, hmm, hp, hf, follow, receiverAt, Place.get, run_underlying Try.underlying45, wrapnil, hl, asAddr]
theorem methp (s : String) (m : Method) (g : Nat) (W : World) (hm : (Try.prog.info? 45).map (fun i => i.methods.find? (·.name == s)) = some (some m)) (k : Nat) (f : FuncId) (hp : m.path = #[]) (hf : m.func = some (f, true)) :
    (method (k + 1) 45 (.pointer (some ⟨g, 0, none⟩)) s).run Try.prog W = .ok (f, .pointer (some ⟨g, 0, none⟩)) W := by
  obtain ⟨i, hi, hmm⟩ := Option.map_eq_some_iff.1 hm
  unfold method
  simp [typeInfo, hi, hmm, hp, hf, follow, receiverAt, Place.get, run_underlying Try.underlying45]
theorem load41 (g : Nat) (A : Option Addr) (n c : Nat) (W : World) (h : W.cell? ⟨g, 0, none⟩ = some (.slice A n c)) : (loadVar 41 ⟨g, 0, none⟩).run Try.prog W = .ok (.slice A n c) W := by
  first | (simp [loadVar, run_underlying Try.underlying41, h]; done) | (go_simp; done)
theorem m_Len (g : Nat) (A : Option Addr) (n c : Nat) (W : World) (h : W.cell? ⟨g, 0, none⟩ = some (.slice A n c)) : (method 171 45 (.pointer (some ⟨g, 0, none⟩)) "Len").run Try.prog W = .ok (39, .slice A n c) W :=
  meth "Len" ⟨ "Len", 32, #[], some (39, false)⟩ g _ W (by kernel_rfl) 170 39 rfl rfl (load41 g A n c W h)
theorem m_Less (g : Nat) (A : Option Addr) (n c : Nat) (W : World) (h : W.cell? ⟨g, 0, none⟩ = some (.slice A n c)) : (method 171 45 (.pointer (some ⟨g, 0, none⟩)) "Less").run Try.prog W = .ok (40, .slice A n c) W :=
  meth "Less" ⟨ "Less", 54, #[], some (40, false)⟩ g _ W (by kernel_rfl) 170 40 rfl rfl (load41 g A n c W h)
theorem m_Swap (g : Nat) (A : Option Addr) (n c : Nat) (W : World) (h : W.cell? ⟨g, 0, none⟩ = some (.slice A n c)) : (method 171 45 (.pointer (some ⟨g, 0, none⟩)) "Swap").run Try.prog W = .ok (41, .slice A n c) W :=
  meth "Swap" ⟨ "Swap", 52, #[], some (41, false)⟩ g _ W (by kernel_rfl) 170 41 rfl rfl (load41 g A n c W h)
theorem m_Push (g : Nat) (W : World) : (method 171 45 (.pointer (some ⟨g, 0, none⟩)) "Push").run Try.prog W = .ok (43, .pointer (some ⟨g, 0, none⟩)) W :=
  methp "Push" ⟨ "Push", 50, #[], some (43, true)⟩ g W (by kernel_rfl) 170 43 rfl rfl
theorem m_Pop (g : Nat) (W : World) : (method 171 45 (.pointer (some ⟨g, 0, none⟩)) "Pop").run Try.prog W = .ok (42, .pointer (some ⟨g, 0, none⟩)) W :=
  methp "Pop" ⟨ "Pop", 53, #[], some (42, true)⟩ g W (by kernel_rfl) 170 42 rfl rfl
end Go.Proofs.Ytgefggokgjneoaa.QT
