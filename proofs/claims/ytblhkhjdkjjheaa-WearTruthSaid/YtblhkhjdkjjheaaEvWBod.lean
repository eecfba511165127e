import Derived.Test.YtblhkhjdkjjheaaEvSum
import Derived.Test.YtblhkhjdkjjheaaChecked
import Derived.Test.YtblhkhjdkjjheaaEvWPf
import Derived.KernelRfl
set_option linter.unusedVariables false
set_option linter.unusedSimpArgs false
set_option linter.unnecessarySimpa false
set_option linter.unusedSectionVars false
namespace Go.Ev.W
open Go Go.Ev Go.Proofs
set_option maxRecDepth 1000000
theorem c3 : compile Try.prog Try.f3 = some pf3 := by kernel_rfl
theorem b3 {E : Env} (hP : E.P = Try.prog) (hc : ∀ f, FnOk E.P E.G f (E.call f)) : FnOk E.P E.G 3 (runFn E pf3) := FnOk.body hP (Checked.mixed Try.checked) Try.func3 (of_decide_eq_true (by kernel_rfl)) c3 hc
theorem c4 : compile Try.prog Try.f4 = some pf4 := by kernel_rfl
theorem b4 {E : Env} (hP : E.P = Try.prog) (hc : ∀ f, FnOk E.P E.G f (E.call f)) : FnOk E.P E.G 4 (runFn E pf4) := FnOk.body hP (Checked.mixed Try.checked) Try.func4 (of_decide_eq_true (by kernel_rfl)) c4 hc
theorem c5 : compile Try.prog Try.f5 = some pf5 := by kernel_rfl
theorem b5 {E : Env} (hP : E.P = Try.prog) (hc : ∀ f, FnOk E.P E.G f (E.call f)) : FnOk E.P E.G 5 (runFn E pf5) := FnOk.body hP (Checked.mixed Try.checked) Try.func5 (of_decide_eq_true (by kernel_rfl)) c5 hc
theorem c6 : compile Try.prog Try.f6 = some pf6 := by kernel_rfl
theorem b6 {E : Env} (hP : E.P = Try.prog) (hc : ∀ f, FnOk E.P E.G f (E.call f)) : FnOk E.P E.G 6 (runFn E pf6) := FnOk.body hP (Checked.mixed Try.checked) Try.func6 (of_decide_eq_true (by kernel_rfl)) c6 hc
theorem c9 : compile Try.prog Try.f9 = some pf9 := by kernel_rfl
theorem b9 {E : Env} (hP : E.P = Try.prog) (hc : ∀ f, FnOk E.P E.G f (E.call f)) : FnOk E.P E.G 9 (runFn E pf9) := FnOk.body hP (Checked.mixed Try.checked) Try.func9 (of_decide_eq_true (by kernel_rfl)) c9 hc
theorem c10 : compile Try.prog Try.f10 = some pf10 := by kernel_rfl
theorem b10 {E : Env} (hP : E.P = Try.prog) (hc : ∀ f, FnOk E.P E.G f (E.call f)) : FnOk E.P E.G 10 (runFn E pf10) := FnOk.body hP (Checked.mixed Try.checked) Try.func10 (of_decide_eq_true (by kernel_rfl)) c10 hc
theorem c11 : compile Try.prog Try.f11 = some pf11 := by kernel_rfl
theorem c12 : compile Try.prog Try.f12 = some pf12 := by kernel_rfl
theorem b12 {E : Env} (hP : E.P = Try.prog) (hc : ∀ f, FnOk E.P E.G f (E.call f)) : FnOk E.P E.G 12 (runFn E pf12) := FnOk.body hP (Checked.mixed Try.checked) Try.func12 (of_decide_eq_true (by kernel_rfl)) c12 hc
theorem c13 : compile Try.prog Try.f13 = some pf13 := by kernel_rfl
theorem b13 {E : Env} (hP : E.P = Try.prog) (hc : ∀ f, FnOk E.P E.G f (E.call f)) : FnOk E.P E.G 13 (runFn E pf13) := FnOk.body hP (Checked.mixed Try.checked) Try.func13 (of_decide_eq_true (by kernel_rfl)) c13 hc
theorem c14 : compile Try.prog Try.f14 = some pf14 := by kernel_rfl
theorem b14 {E : Env} (hP : E.P = Try.prog) (hc : ∀ f, FnOk E.P E.G f (E.call f)) : FnOk E.P E.G 14 (runFn E pf14) := FnOk.body hP (Checked.mixed Try.checked) Try.func14 (of_decide_eq_true (by kernel_rfl)) c14 hc
theorem c15 : compile Try.prog Try.f15 = some pf15 := by kernel_rfl
theorem b15 {E : Env} (hP : E.P = Try.prog) (hc : ∀ f, FnOk E.P E.G f (E.call f)) : FnOk E.P E.G 15 (runFn E pf15) := FnOk.body hP (Checked.mixed Try.checked) Try.func15 (of_decide_eq_true (by kernel_rfl)) c15 hc
theorem c16 : compile Try.prog Try.f16 = some pf16 := by kernel_rfl
theorem b16 {E : Env} (hP : E.P = Try.prog) (hc : ∀ f, FnOk E.P E.G f (E.call f)) : FnOk E.P E.G 16 (runFn E pf16) := FnOk.body hP (Checked.mixed Try.checked) Try.func16 (of_decide_eq_true (by kernel_rfl)) c16 hc
theorem c17 : compile Try.prog Try.f17 = some pf17 := by kernel_rfl
theorem b17 {E : Env} (hP : E.P = Try.prog) (hc : ∀ f, FnOk E.P E.G f (E.call f)) : FnOk E.P E.G 17 (runFn E pf17) := FnOk.body hP (Checked.mixed Try.checked) Try.func17 (of_decide_eq_true (by kernel_rfl)) c17 hc
theorem c18 : compile Try.prog Try.f18 = some pf18 := by kernel_rfl
theorem c19 : compile Try.prog Try.f19 = some pf19 := by kernel_rfl
theorem b19 {E : Env} (hP : E.P = Try.prog) (hc : ∀ f, FnOk E.P E.G f (E.call f)) : FnOk E.P E.G 19 (runFn E pf19) := FnOk.body hP (Checked.mixed Try.checked) Try.func19 (of_decide_eq_true (by kernel_rfl)) c19 hc
theorem c20 : compile Try.prog Try.f20 = some pf20 := by kernel_rfl
theorem b20 {E : Env} (hP : E.P = Try.prog) (hc : ∀ f, FnOk E.P E.G f (E.call f)) : FnOk E.P E.G 20 (runFn E pf20) := FnOk.body hP (Checked.mixed Try.checked) Try.func20 (of_decide_eq_true (by kernel_rfl)) c20 hc
theorem c21 : compile Try.prog Try.f21 = some pf21 := by kernel_rfl
theorem c22 : compile Try.prog Try.f22 = some pf22 := by kernel_rfl
theorem b22 {E : Env} (hP : E.P = Try.prog) (hc : ∀ f, FnOk E.P E.G f (E.call f)) : FnOk E.P E.G 22 (runFn E pf22) := FnOk.body hP (Checked.mixed Try.checked) Try.func22 (of_decide_eq_true (by kernel_rfl)) c22 hc
theorem c24 : compile Try.prog Try.f24 = some pf24 := by kernel_rfl
theorem b24 {E : Env} (hP : E.P = Try.prog) (hc : ∀ f, FnOk E.P E.G f (E.call f)) : FnOk E.P E.G 24 (runFn E pf24) := FnOk.body hP (Checked.mixed Try.checked) Try.func24 (of_decide_eq_true (by kernel_rfl)) c24 hc
theorem c25 : compile Try.prog Try.f25 = some pf25 := by kernel_rfl
theorem b25 {E : Env} (hP : E.P = Try.prog) (hc : ∀ f, FnOk E.P E.G f (E.call f)) : FnOk E.P E.G 25 (runFn E pf25) := FnOk.body hP (Checked.mixed Try.checked) Try.func25 (of_decide_eq_true (by kernel_rfl)) c25 hc
theorem c26 : compile Try.prog Try.f26 = some pf26 := by kernel_rfl
theorem b26 {E : Env} (hP : E.P = Try.prog) (hc : ∀ f, FnOk E.P E.G f (E.call f)) : FnOk E.P E.G 26 (runFn E pf26) := FnOk.body hP (Checked.mixed Try.checked) Try.func26 (of_decide_eq_true (by kernel_rfl)) c26 hc
theorem c27 : compile Try.prog Try.f27 = some pf27 := by kernel_rfl
theorem b27 {E : Env} (hP : E.P = Try.prog) (hc : ∀ f, FnOk E.P E.G f (E.call f)) : FnOk E.P E.G 27 (runFn E pf27) := FnOk.body hP (Checked.mixed Try.checked) Try.func27 (of_decide_eq_true (by kernel_rfl)) c27 hc
theorem c28 : compile Try.prog Try.f28 = some pf28 := by kernel_rfl
theorem b28 {E : Env} (hP : E.P = Try.prog) (hc : ∀ f, FnOk E.P E.G f (E.call f)) : FnOk E.P E.G 28 (runFn E pf28) := FnOk.body hP (Checked.mixed Try.checked) Try.func28 (of_decide_eq_true (by kernel_rfl)) c28 hc
theorem c29 : compile Try.prog Try.f29 = some pf29 := by kernel_rfl
theorem b29 {E : Env} (hP : E.P = Try.prog) (hc : ∀ f, FnOk E.P E.G f (E.call f)) : FnOk E.P E.G 29 (runFn E pf29) := FnOk.body hP (Checked.mixed Try.checked) Try.func29 (of_decide_eq_true (by kernel_rfl)) c29 hc
theorem c30 : compile Try.prog Try.f30 = some pf30 := by kernel_rfl
theorem b30 {E : Env} (hP : E.P = Try.prog) (hc : ∀ f, FnOk E.P E.G f (E.call f)) : FnOk E.P E.G 30 (runFn E pf30) := FnOk.body hP (Checked.mixed Try.checked) Try.func30 (of_decide_eq_true (by kernel_rfl)) c30 hc
theorem c31 : compile Try.prog Try.f31 = some pf31 := by kernel_rfl
theorem b31 {E : Env} (hP : E.P = Try.prog) (hc : ∀ f, FnOk E.P E.G f (E.call f)) : FnOk E.P E.G 31 (runFn E pf31) := FnOk.body hP (Checked.mixed Try.checked) Try.func31 (of_decide_eq_true (by kernel_rfl)) c31 hc
theorem c32 : compile Try.prog Try.f32 = some pf32 := by kernel_rfl
theorem b32 {E : Env} (hP : E.P = Try.prog) (hc : ∀ f, FnOk E.P E.G f (E.call f)) : FnOk E.P E.G 32 (runFn E pf32) := FnOk.body hP (Checked.mixed Try.checked) Try.func32 (of_decide_eq_true (by kernel_rfl)) c32 hc
theorem c33 : compile Try.prog Try.f33 = some pf33 := by kernel_rfl
theorem b33 {E : Env} (hP : E.P = Try.prog) (hc : ∀ f, FnOk E.P E.G f (E.call f)) : FnOk E.P E.G 33 (runFn E pf33) := FnOk.body hP (Checked.mixed Try.checked) Try.func33 (of_decide_eq_true (by kernel_rfl)) c33 hc
theorem c34 : compile Try.prog Try.f34 = some pf34 := by kernel_rfl
theorem b34 {E : Env} (hP : E.P = Try.prog) (hc : ∀ f, FnOk E.P E.G f (E.call f)) : FnOk E.P E.G 34 (runFn E pf34) := FnOk.body hP (Checked.mixed Try.checked) Try.func34 (of_decide_eq_true (by kernel_rfl)) c34 hc
theorem c35 : compile Try.prog Try.f35 = some pf35 := by kernel_rfl
theorem b35 {E : Env} (hP : E.P = Try.prog) (hc : ∀ f, FnOk E.P E.G f (E.call f)) : FnOk E.P E.G 35 (runFn E pf35) := FnOk.body hP (Checked.mixed Try.checked) Try.func35 (of_decide_eq_true (by kernel_rfl)) c35 hc
theorem c36 : compile Try.prog Try.f36 = some pf36 := by kernel_rfl
theorem b36 {E : Env} (hP : E.P = Try.prog) (hc : ∀ f, FnOk E.P E.G f (E.call f)) : FnOk E.P E.G 36 (runFn E pf36) := FnOk.body hP (Checked.mixed Try.checked) Try.func36 (of_decide_eq_true (by kernel_rfl)) c36 hc
theorem c37 : compile Try.prog Try.f37 = some pf37 := by kernel_rfl
theorem b37 {E : Env} (hP : E.P = Try.prog) (hc : ∀ f, FnOk E.P E.G f (E.call f)) : FnOk E.P E.G 37 (runFn E pf37) := FnOk.body hP (Checked.mixed Try.checked) Try.func37 (of_decide_eq_true (by kernel_rfl)) c37 hc
theorem c38 : compile Try.prog Try.f38 = some pf38 := by kernel_rfl
theorem b38 {E : Env} (hP : E.P = Try.prog) (hc : ∀ f, FnOk E.P E.G f (E.call f)) : FnOk E.P E.G 38 (runFn E pf38) := FnOk.body hP (Checked.mixed Try.checked) Try.func38 (of_decide_eq_true (by kernel_rfl)) c38 hc
theorem c39 : compile Try.prog Try.f39 = some pf39 := by kernel_rfl
theorem b39 {E : Env} (hP : E.P = Try.prog) (hc : ∀ f, FnOk E.P E.G f (E.call f)) : FnOk E.P E.G 39 (runFn E pf39) := FnOk.body hP (Checked.mixed Try.checked) Try.func39 (of_decide_eq_true (by kernel_rfl)) c39 hc
theorem c40 : compile Try.prog Try.f40 = some pf40 := by kernel_rfl
theorem b40 {E : Env} (hP : E.P = Try.prog) (hc : ∀ f, FnOk E.P E.G f (E.call f)) : FnOk E.P E.G 40 (runFn E pf40) := FnOk.body hP (Checked.mixed Try.checked) Try.func40 (of_decide_eq_true (by kernel_rfl)) c40 hc
theorem c41 : compile Try.prog Try.f41 = some pf41 := by kernel_rfl
theorem b41 {E : Env} (hP : E.P = Try.prog) (hc : ∀ f, FnOk E.P E.G f (E.call f)) : FnOk E.P E.G 41 (runFn E pf41) := FnOk.body hP (Checked.mixed Try.checked) Try.func41 (of_decide_eq_true (by kernel_rfl)) c41 hc
theorem c42 : compile Try.prog Try.f42 = some pf42 := by kernel_rfl
theorem b42 {E : Env} (hP : E.P = Try.prog) (hc : ∀ f, FnOk E.P E.G f (E.call f)) : FnOk E.P E.G 42 (runFn E pf42) := FnOk.body hP (Checked.mixed Try.checked) Try.func42 (of_decide_eq_true (by kernel_rfl)) c42 hc
theorem c43 : compile Try.prog Try.f43 = some pf43 := by kernel_rfl
theorem b43 {E : Env} (hP : E.P = Try.prog) (hc : ∀ f, FnOk E.P E.G f (E.call f)) : FnOk E.P E.G 43 (runFn E pf43) := FnOk.body hP (Checked.mixed Try.checked) Try.func43 (of_decide_eq_true (by kernel_rfl)) c43 hc
theorem c44 : compile Try.prog Try.f44 = some pf44 := by kernel_rfl
theorem b44 {E : Env} (hP : E.P = Try.prog) (hc : ∀ f, FnOk E.P E.G f (E.call f)) : FnOk E.P E.G 44 (runFn E pf44) := FnOk.body hP (Checked.mixed Try.checked) Try.func44 (of_decide_eq_true (by kernel_rfl)) c44 hc
theorem c45 : compile Try.prog Try.f45 = some pf45 := by kernel_rfl
theorem b45 {E : Env} (hP : E.P = Try.prog) (hc : ∀ f, FnOk E.P E.G f (E.call f)) : FnOk E.P E.G 45 (runFn E pf45) := FnOk.body hP (Checked.mixed Try.checked) Try.func45 (of_decide_eq_true (by kernel_rfl)) c45 hc
theorem c46 : compile Try.prog Try.f46 = some pf46 := by kernel_rfl
theorem b46 {E : Env} (hP : E.P = Try.prog) (hc : ∀ f, FnOk E.P E.G f (E.call f)) : FnOk E.P E.G 46 (runFn E pf46) := FnOk.body hP (Checked.mixed Try.checked) Try.func46 (of_decide_eq_true (by kernel_rfl)) c46 hc
theorem c47 : compile Try.prog Try.f47 = some pf47 := by kernel_rfl
theorem b47 {E : Env} (hP : E.P = Try.prog) (hc : ∀ f, FnOk E.P E.G f (E.call f)) : FnOk E.P E.G 47 (runFn E pf47) := FnOk.body hP (Checked.mixed Try.checked) Try.func47 (of_decide_eq_true (by kernel_rfl)) c47 hc
theorem c48 : compile Try.prog Try.f48 = some pf48 := by kernel_rfl
theorem b48 {E : Env} (hP : E.P = Try.prog) (hc : ∀ f, FnOk E.P E.G f (E.call f)) : FnOk E.P E.G 48 (runFn E pf48) := FnOk.body hP (Checked.mixed Try.checked) Try.func48 (of_decide_eq_true (by kernel_rfl)) c48 hc
theorem c51 : compile Try.prog Try.f51 = some pf51 := by kernel_rfl
theorem b51 {E : Env} (hP : E.P = Try.prog) (hc : ∀ f, FnOk E.P E.G f (E.call f)) : FnOk E.P E.G 51 (runFn E pf51) := FnOk.body hP (Checked.mixed Try.checked) Try.func51 (of_decide_eq_true (by kernel_rfl)) c51 hc
end Go.Ev.W

