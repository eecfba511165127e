import Derived.Test.YthbcfinnphpcbaaDoorEvSum
import Derived.Test.YthbcfinnphpcbaaDoorChecked
import Derived.Test.YthbcfinnphpcbaaDoorEvPf
import Derived.KernelRfl
set_option linter.unusedVariables false
set_option linter.unusedSimpArgs false
set_option linter.unnecessarySimpa false
set_option linter.unusedSectionVars false
namespace Go.Ev.T
open Go Go.Ev Go.Proofs
set_option maxRecDepth 1000000
theorem c3 : compile Tryd.prog Tryd.f3 = some pf3 := by kernel_rfl
theorem b3 {E : Env} (hP : E.P = Tryd.prog) (hc : ∀ f, FnOk E.P E.G f (E.call f)) : FnOk E.P E.G 3 (runFn E pf3) := FnOk.body hP (Checked.mixed Tryd.checked) Tryd.func3 (of_decide_eq_true (by kernel_rfl)) c3 hc
theorem c8 : compile Tryd.prog Tryd.f8 = some pf8 := by kernel_rfl
theorem b8 {E : Env} (hP : E.P = Tryd.prog) (hc : ∀ f, FnOk E.P E.G f (E.call f)) : FnOk E.P E.G 8 (runFn E pf8) := FnOk.body hP (Checked.mixed Tryd.checked) Tryd.func8 (of_decide_eq_true (by kernel_rfl)) c8 hc
theorem c9 : compile Tryd.prog Tryd.f9 = some pf9 := by kernel_rfl
theorem b9 {E : Env} (hP : E.P = Tryd.prog) (hc : ∀ f, FnOk E.P E.G f (E.call f)) : FnOk E.P E.G 9 (runFn E pf9) := FnOk.body hP (Checked.mixed Tryd.checked) Tryd.func9 (of_decide_eq_true (by kernel_rfl)) c9 hc
theorem c10 : compile Tryd.prog Tryd.f10 = some pf10 := by kernel_rfl
theorem b10 {E : Env} (hP : E.P = Tryd.prog) (hc : ∀ f, FnOk E.P E.G f (E.call f)) : FnOk E.P E.G 10 (runFn E pf10) := FnOk.body hP (Checked.mixed Tryd.checked) Tryd.func10 (of_decide_eq_true (by kernel_rfl)) c10 hc
theorem c11 : compile Tryd.prog Tryd.f11 = some pf11 := by kernel_rfl
theorem b11 {E : Env} (hP : E.P = Tryd.prog) (hc : ∀ f, FnOk E.P E.G f (E.call f)) : FnOk E.P E.G 11 (runFn E pf11) := FnOk.body hP (Checked.mixed Tryd.checked) Tryd.func11 (of_decide_eq_true (by kernel_rfl)) c11 hc
theorem c12 : compile Tryd.prog Tryd.f12 = some pf12 := by kernel_rfl
theorem b12 {E : Env} (hP : E.P = Tryd.prog) (hc : ∀ f, FnOk E.P E.G f (E.call f)) : FnOk E.P E.G 12 (runFn E pf12) := FnOk.body hP (Checked.mixed Tryd.checked) Tryd.func12 (of_decide_eq_true (by kernel_rfl)) c12 hc
theorem c13 : compile Tryd.prog Tryd.f13 = some pf13 := by kernel_rfl
theorem b13 {E : Env} (hP : E.P = Tryd.prog) (hc : ∀ f, FnOk E.P E.G f (E.call f)) : FnOk E.P E.G 13 (runFn E pf13) := FnOk.body hP (Checked.mixed Tryd.checked) Tryd.func13 (of_decide_eq_true (by kernel_rfl)) c13 hc
theorem c14 : compile Tryd.prog Tryd.f14 = some pf14 := by kernel_rfl
theorem b14 {E : Env} (hP : E.P = Tryd.prog) (hc : ∀ f, FnOk E.P E.G f (E.call f)) : FnOk E.P E.G 14 (runFn E pf14) := FnOk.body hP (Checked.mixed Tryd.checked) Tryd.func14 (of_decide_eq_true (by kernel_rfl)) c14 hc
theorem c15 : compile Tryd.prog Tryd.f15 = some pf15 := by kernel_rfl
theorem b15 {E : Env} (hP : E.P = Tryd.prog) (hc : ∀ f, FnOk E.P E.G f (E.call f)) : FnOk E.P E.G 15 (runFn E pf15) := FnOk.body hP (Checked.mixed Tryd.checked) Tryd.func15 (of_decide_eq_true (by kernel_rfl)) c15 hc
theorem c16 : compile Tryd.prog Tryd.f16 = some pf16 := by kernel_rfl
theorem b16 {E : Env} (hP : E.P = Tryd.prog) (hc : ∀ f, FnOk E.P E.G f (E.call f)) : FnOk E.P E.G 16 (runFn E pf16) := FnOk.body hP (Checked.mixed Tryd.checked) Tryd.func16 (of_decide_eq_true (by kernel_rfl)) c16 hc
theorem c17 : compile Tryd.prog Tryd.f17 = some pf17 := by kernel_rfl
theorem b17 {E : Env} (hP : E.P = Tryd.prog) (hc : ∀ f, FnOk E.P E.G f (E.call f)) : FnOk E.P E.G 17 (runFn E pf17) := FnOk.body hP (Checked.mixed Tryd.checked) Tryd.func17 (of_decide_eq_true (by kernel_rfl)) c17 hc
theorem c18 : compile Tryd.prog Tryd.f18 = some pf18 := by kernel_rfl
theorem b18 {E : Env} (hP : E.P = Tryd.prog) (hc : ∀ f, FnOk E.P E.G f (E.call f)) : FnOk E.P E.G 18 (runFn E pf18) := FnOk.body hP (Checked.mixed Tryd.checked) Tryd.func18 (of_decide_eq_true (by kernel_rfl)) c18 hc
theorem c19 : compile Tryd.prog Tryd.f19 = some pf19 := by kernel_rfl
theorem b19 {E : Env} (hP : E.P = Tryd.prog) (hc : ∀ f, FnOk E.P E.G f (E.call f)) : FnOk E.P E.G 19 (runFn E pf19) := FnOk.body hP (Checked.mixed Tryd.checked) Tryd.func19 (of_decide_eq_true (by kernel_rfl)) c19 hc
theorem c20 : compile Tryd.prog Tryd.f20 = some pf20 := by kernel_rfl
theorem b20 {E : Env} (hP : E.P = Tryd.prog) (hc : ∀ f, FnOk E.P E.G f (E.call f)) : FnOk E.P E.G 20 (runFn E pf20) := FnOk.body hP (Checked.mixed Tryd.checked) Tryd.func20 (of_decide_eq_true (by kernel_rfl)) c20 hc
theorem c21 : compile Tryd.prog Tryd.f21 = some pf21 := by kernel_rfl
theorem b21 {E : Env} (hP : E.P = Tryd.prog) (hc : ∀ f, FnOk E.P E.G f (E.call f)) : FnOk E.P E.G 21 (runFn E pf21) := FnOk.body hP (Checked.mixed Tryd.checked) Tryd.func21 (of_decide_eq_true (by kernel_rfl)) c21 hc
theorem c22 : compile Tryd.prog Tryd.f22 = some pf22 := by kernel_rfl
theorem b22 {E : Env} (hP : E.P = Tryd.prog) (hc : ∀ f, FnOk E.P E.G f (E.call f)) : FnOk E.P E.G 22 (runFn E pf22) := FnOk.body hP (Checked.mixed Tryd.checked) Tryd.func22 (of_decide_eq_true (by kernel_rfl)) c22 hc
theorem c25 : compile Tryd.prog Tryd.f25 = some pf25 := by kernel_rfl
theorem b25 {E : Env} (hP : E.P = Tryd.prog) (hc : ∀ f, FnOk E.P E.G f (E.call f)) : FnOk E.P E.G 25 (runFn E pf25) := FnOk.body hP (Checked.mixed Tryd.checked) Tryd.func25 (of_decide_eq_true (by kernel_rfl)) c25 hc
theorem c26 : compile Tryd.prog Tryd.f26 = some pf26 := by kernel_rfl
theorem b26 {E : Env} (hP : E.P = Tryd.prog) (hc : ∀ f, FnOk E.P E.G f (E.call f)) : FnOk E.P E.G 26 (runFn E pf26) := FnOk.body hP (Checked.mixed Tryd.checked) Tryd.func26 (of_decide_eq_true (by kernel_rfl)) c26 hc
theorem c27 : compile Tryd.prog Tryd.f27 = some pf27 := by kernel_rfl
theorem b27 {E : Env} (hP : E.P = Tryd.prog) (hc : ∀ f, FnOk E.P E.G f (E.call f)) : FnOk E.P E.G 27 (runFn E pf27) := FnOk.body hP (Checked.mixed Tryd.checked) Tryd.func27 (of_decide_eq_true (by kernel_rfl)) c27 hc
theorem c28 : compile Tryd.prog Tryd.f28 = some pf28 := by kernel_rfl
theorem b28 {E : Env} (hP : E.P = Tryd.prog) (hc : ∀ f, FnOk E.P E.G f (E.call f)) : FnOk E.P E.G 28 (runFn E pf28) := FnOk.body hP (Checked.mixed Tryd.checked) Tryd.func28 (of_decide_eq_true (by kernel_rfl)) c28 hc
theorem c29 : compile Tryd.prog Tryd.f29 = some pf29 := by kernel_rfl
theorem b29 {E : Env} (hP : E.P = Tryd.prog) (hc : ∀ f, FnOk E.P E.G f (E.call f)) : FnOk E.P E.G 29 (runFn E pf29) := FnOk.body hP (Checked.mixed Tryd.checked) Tryd.func29 (of_decide_eq_true (by kernel_rfl)) c29 hc
theorem c30 : compile Tryd.prog Tryd.f30 = some pf30 := by kernel_rfl
theorem b30 {E : Env} (hP : E.P = Tryd.prog) (hc : ∀ f, FnOk E.P E.G f (E.call f)) : FnOk E.P E.G 30 (runFn E pf30) := FnOk.body hP (Checked.mixed Tryd.checked) Tryd.func30 (of_decide_eq_true (by kernel_rfl)) c30 hc
theorem c31 : compile Tryd.prog Tryd.f31 = some pf31 := by kernel_rfl
theorem b31 {E : Env} (hP : E.P = Tryd.prog) (hc : ∀ f, FnOk E.P E.G f (E.call f)) : FnOk E.P E.G 31 (runFn E pf31) := FnOk.body hP (Checked.mixed Tryd.checked) Tryd.func31 (of_decide_eq_true (by kernel_rfl)) c31 hc
theorem c32 : compile Tryd.prog Tryd.f32 = some pf32 := by kernel_rfl
theorem b32 {E : Env} (hP : E.P = Tryd.prog) (hc : ∀ f, FnOk E.P E.G f (E.call f)) : FnOk E.P E.G 32 (runFn E pf32) := FnOk.body hP (Checked.mixed Tryd.checked) Tryd.func32 (of_decide_eq_true (by kernel_rfl)) c32 hc
theorem c33 : compile Tryd.prog Tryd.f33 = some pf33 := by kernel_rfl
theorem b33 {E : Env} (hP : E.P = Tryd.prog) (hc : ∀ f, FnOk E.P E.G f (E.call f)) : FnOk E.P E.G 33 (runFn E pf33) := FnOk.body hP (Checked.mixed Tryd.checked) Tryd.func33 (of_decide_eq_true (by kernel_rfl)) c33 hc
theorem c34 : compile Tryd.prog Tryd.f34 = some pf34 := by kernel_rfl
theorem b34 {E : Env} (hP : E.P = Tryd.prog) (hc : ∀ f, FnOk E.P E.G f (E.call f)) : FnOk E.P E.G 34 (runFn E pf34) := FnOk.body hP (Checked.mixed Tryd.checked) Tryd.func34 (of_decide_eq_true (by kernel_rfl)) c34 hc
theorem c35 : compile Tryd.prog Tryd.f35 = some pf35 := by kernel_rfl
theorem b35 {E : Env} (hP : E.P = Tryd.prog) (hc : ∀ f, FnOk E.P E.G f (E.call f)) : FnOk E.P E.G 35 (runFn E pf35) := FnOk.body hP (Checked.mixed Tryd.checked) Tryd.func35 (of_decide_eq_true (by kernel_rfl)) c35 hc
theorem c36 : compile Tryd.prog Tryd.f36 = some pf36 := by kernel_rfl
theorem b36 {E : Env} (hP : E.P = Tryd.prog) (hc : ∀ f, FnOk E.P E.G f (E.call f)) : FnOk E.P E.G 36 (runFn E pf36) := FnOk.body hP (Checked.mixed Tryd.checked) Tryd.func36 (of_decide_eq_true (by kernel_rfl)) c36 hc
theorem c37 : compile Tryd.prog Tryd.f37 = some pf37 := by kernel_rfl
theorem b37 {E : Env} (hP : E.P = Tryd.prog) (hc : ∀ f, FnOk E.P E.G f (E.call f)) : FnOk E.P E.G 37 (runFn E pf37) := FnOk.body hP (Checked.mixed Tryd.checked) Tryd.func37 (of_decide_eq_true (by kernel_rfl)) c37 hc
theorem c38 : compile Tryd.prog Tryd.f38 = some pf38 := by kernel_rfl
theorem b38 {E : Env} (hP : E.P = Tryd.prog) (hc : ∀ f, FnOk E.P E.G f (E.call f)) : FnOk E.P E.G 38 (runFn E pf38) := FnOk.body hP (Checked.mixed Tryd.checked) Tryd.func38 (of_decide_eq_true (by kernel_rfl)) c38 hc
theorem c39 : compile Tryd.prog Tryd.f39 = some pf39 := by kernel_rfl
theorem b39 {E : Env} (hP : E.P = Tryd.prog) (hc : ∀ f, FnOk E.P E.G f (E.call f)) : FnOk E.P E.G 39 (runFn E pf39) := FnOk.body hP (Checked.mixed Tryd.checked) Tryd.func39 (of_decide_eq_true (by kernel_rfl)) c39 hc
theorem c40 : compile Tryd.prog Tryd.f40 = some pf40 := by kernel_rfl
theorem b40 {E : Env} (hP : E.P = Tryd.prog) (hc : ∀ f, FnOk E.P E.G f (E.call f)) : FnOk E.P E.G 40 (runFn E pf40) := FnOk.body hP (Checked.mixed Tryd.checked) Tryd.func40 (of_decide_eq_true (by kernel_rfl)) c40 hc
theorem c41 : compile Tryd.prog Tryd.f41 = some pf41 := by kernel_rfl
theorem b41 {E : Env} (hP : E.P = Tryd.prog) (hc : ∀ f, FnOk E.P E.G f (E.call f)) : FnOk E.P E.G 41 (runFn E pf41) := FnOk.body hP (Checked.mixed Tryd.checked) Tryd.func41 (of_decide_eq_true (by kernel_rfl)) c41 hc
theorem c42 : compile Tryd.prog Tryd.f42 = some pf42 := by kernel_rfl
theorem b42 {E : Env} (hP : E.P = Tryd.prog) (hc : ∀ f, FnOk E.P E.G f (E.call f)) : FnOk E.P E.G 42 (runFn E pf42) := FnOk.body hP (Checked.mixed Tryd.checked) Tryd.func42 (of_decide_eq_true (by kernel_rfl)) c42 hc
theorem c43 : compile Tryd.prog Tryd.f43 = some pf43 := by kernel_rfl
theorem b43 {E : Env} (hP : E.P = Tryd.prog) (hc : ∀ f, FnOk E.P E.G f (E.call f)) : FnOk E.P E.G 43 (runFn E pf43) := FnOk.body hP (Checked.mixed Tryd.checked) Tryd.func43 (of_decide_eq_true (by kernel_rfl)) c43 hc
theorem c44 : compile Tryd.prog Tryd.f44 = some pf44 := by kernel_rfl
theorem b44 {E : Env} (hP : E.P = Tryd.prog) (hc : ∀ f, FnOk E.P E.G f (E.call f)) : FnOk E.P E.G 44 (runFn E pf44) := FnOk.body hP (Checked.mixed Tryd.checked) Tryd.func44 (of_decide_eq_true (by kernel_rfl)) c44 hc
theorem c45 : compile Tryd.prog Tryd.f45 = some pf45 := by kernel_rfl
theorem b45 {E : Env} (hP : E.P = Tryd.prog) (hc : ∀ f, FnOk E.P E.G f (E.call f)) : FnOk E.P E.G 45 (runFn E pf45) := FnOk.body hP (Checked.mixed Tryd.checked) Tryd.func45 (of_decide_eq_true (by kernel_rfl)) c45 hc
theorem c46 : compile Tryd.prog Tryd.f46 = some pf46 := by kernel_rfl
theorem b46 {E : Env} (hP : E.P = Tryd.prog) (hc : ∀ f, FnOk E.P E.G f (E.call f)) : FnOk E.P E.G 46 (runFn E pf46) := FnOk.body hP (Checked.mixed Tryd.checked) Tryd.func46 (of_decide_eq_true (by kernel_rfl)) c46 hc
theorem c47 : compile Tryd.prog Tryd.f47 = some pf47 := by kernel_rfl
theorem b47 {E : Env} (hP : E.P = Tryd.prog) (hc : ∀ f, FnOk E.P E.G f (E.call f)) : FnOk E.P E.G 47 (runFn E pf47) := FnOk.body hP (Checked.mixed Tryd.checked) Tryd.func47 (of_decide_eq_true (by kernel_rfl)) c47 hc
theorem c48 : compile Tryd.prog Tryd.f48 = some pf48 := by kernel_rfl
theorem b48 {E : Env} (hP : E.P = Tryd.prog) (hc : ∀ f, FnOk E.P E.G f (E.call f)) : FnOk E.P E.G 48 (runFn E pf48) := FnOk.body hP (Checked.mixed Tryd.checked) Tryd.func48 (of_decide_eq_true (by kernel_rfl)) c48 hc
theorem c49 : compile Tryd.prog Tryd.f49 = some pf49 := by kernel_rfl
theorem b49 {E : Env} (hP : E.P = Tryd.prog) (hc : ∀ f, FnOk E.P E.G f (E.call f)) : FnOk E.P E.G 49 (runFn E pf49) := FnOk.body hP (Checked.mixed Tryd.checked) Tryd.func49 (of_decide_eq_true (by kernel_rfl)) c49 hc
theorem c50 : compile Tryd.prog Tryd.f50 = some pf50 := by kernel_rfl
theorem b50 {E : Env} (hP : E.P = Tryd.prog) (hc : ∀ f, FnOk E.P E.G f (E.call f)) : FnOk E.P E.G 50 (runFn E pf50) := FnOk.body hP (Checked.mixed Tryd.checked) Tryd.func50 (of_decide_eq_true (by kernel_rfl)) c50 hc
theorem c51 : compile Tryd.prog Tryd.f51 = some pf51 := by kernel_rfl
theorem b51 {E : Env} (hP : E.P = Tryd.prog) (hc : ∀ f, FnOk E.P E.G f (E.call f)) : FnOk E.P E.G 51 (runFn E pf51) := FnOk.body hP (Checked.mixed Tryd.checked) Tryd.func51 (of_decide_eq_true (by kernel_rfl)) c51 hc
theorem c52 : compile Tryd.prog Tryd.f52 = some pf52 := by kernel_rfl
theorem b52 {E : Env} (hP : E.P = Tryd.prog) (hc : ∀ f, FnOk E.P E.G f (E.call f)) : FnOk E.P E.G 52 (runFn E pf52) := FnOk.body hP (Checked.mixed Tryd.checked) Tryd.func52 (of_decide_eq_true (by kernel_rfl)) c52 hc
theorem c53 : compile Tryd.prog Tryd.f53 = some pf53 := by kernel_rfl
theorem b53 {E : Env} (hP : E.P = Tryd.prog) (hc : ∀ f, FnOk E.P E.G f (E.call f)) : FnOk E.P E.G 53 (runFn E pf53) := FnOk.body hP (Checked.mixed Tryd.checked) Tryd.func53 (of_decide_eq_true (by kernel_rfl)) c53 hc
theorem c54 : compile Tryd.prog Tryd.f54 = some pf54 := by kernel_rfl
theorem b54 {E : Env} (hP : E.P = Tryd.prog) (hc : ∀ f, FnOk E.P E.G f (E.call f)) : FnOk E.P E.G 54 (runFn E pf54) := FnOk.body hP (Checked.mixed Tryd.checked) Tryd.func54 (of_decide_eq_true (by kernel_rfl)) c54 hc
theorem c55 : compile Tryd.prog Tryd.f55 = some pf55 := by kernel_rfl
theorem b55 {E : Env} (hP : E.P = Tryd.prog) (hc : ∀ f, FnOk E.P E.G f (E.call f)) : FnOk E.P E.G 55 (runFn E pf55) := FnOk.body hP (Checked.mixed Tryd.checked) Tryd.func55 (of_decide_eq_true (by kernel_rfl)) c55 hc
theorem c56 : compile Tryd.prog Tryd.f56 = some pf56 := by kernel_rfl
theorem b56 {E : Env} (hP : E.P = Tryd.prog) (hc : ∀ f, FnOk E.P E.G f (E.call f)) : FnOk E.P E.G 56 (runFn E pf56) := FnOk.body hP (Checked.mixed Tryd.checked) Tryd.func56 (of_decide_eq_true (by kernel_rfl)) c56 hc
theorem c57 : compile Tryd.prog Tryd.f57 = some pf57 := by kernel_rfl
theorem b57 {E : Env} (hP : E.P = Tryd.prog) (hc : ∀ f, FnOk E.P E.G f (E.call f)) : FnOk E.P E.G 57 (runFn E pf57) := FnOk.body hP (Checked.mixed Tryd.checked) Tryd.func57 (of_decide_eq_true (by kernel_rfl)) c57 hc
theorem c58 : compile Tryd.prog Tryd.f58 = some pf58 := by kernel_rfl
theorem b58 {E : Env} (hP : E.P = Tryd.prog) (hc : ∀ f, FnOk E.P E.G f (E.call f)) : FnOk E.P E.G 58 (runFn E pf58) := FnOk.body hP (Checked.mixed Tryd.checked) Tryd.func58 (of_decide_eq_true (by kernel_rfl)) c58 hc
theorem c59 : compile Tryd.prog Tryd.f59 = some pf59 := by kernel_rfl
theorem b59 {E : Env} (hP : E.P = Tryd.prog) (hc : ∀ f, FnOk E.P E.G f (E.call f)) : FnOk E.P E.G 59 (runFn E pf59) := FnOk.body hP (Checked.mixed Tryd.checked) Tryd.func59 (of_decide_eq_true (by kernel_rfl)) c59 hc
theorem c60 : compile Tryd.prog Tryd.f60 = some pf60 := by kernel_rfl
theorem b60 {E : Env} (hP : E.P = Tryd.prog) (hc : ∀ f, FnOk E.P E.G f (E.call f)) : FnOk E.P E.G 60 (runFn E pf60) := FnOk.body hP (Checked.mixed Tryd.checked) Tryd.func60 (of_decide_eq_true (by kernel_rfl)) c60 hc
theorem c61 : compile Tryd.prog Tryd.f61 = some pf61 := by kernel_rfl
theorem b61 {E : Env} (hP : E.P = Tryd.prog) (hc : ∀ f, FnOk E.P E.G f (E.call f)) : FnOk E.P E.G 61 (runFn E pf61) := FnOk.body hP (Checked.mixed Tryd.checked) Tryd.func61 (of_decide_eq_true (by kernel_rfl)) c61 hc
theorem c62 : compile Tryd.prog Tryd.f62 = some pf62 := by kernel_rfl
theorem b62 {E : Env} (hP : E.P = Tryd.prog) (hc : ∀ f, FnOk E.P E.G f (E.call f)) : FnOk E.P E.G 62 (runFn E pf62) := FnOk.body hP (Checked.mixed Tryd.checked) Tryd.func62 (of_decide_eq_true (by kernel_rfl)) c62 hc
theorem c63 : compile Tryd.prog Tryd.f63 = some pf63 := by kernel_rfl
theorem b63 {E : Env} (hP : E.P = Tryd.prog) (hc : ∀ f, FnOk E.P E.G f (E.call f)) : FnOk E.P E.G 63 (runFn E pf63) := FnOk.body hP (Checked.mixed Tryd.checked) Tryd.func63 (of_decide_eq_true (by kernel_rfl)) c63 hc
theorem c64 : compile Tryd.prog Tryd.f64 = some pf64 := by kernel_rfl
theorem b64 {E : Env} (hP : E.P = Tryd.prog) (hc : ∀ f, FnOk E.P E.G f (E.call f)) : FnOk E.P E.G 64 (runFn E pf64) := FnOk.body hP (Checked.mixed Tryd.checked) Tryd.func64 (of_decide_eq_true (by kernel_rfl)) c64 hc
theorem c65 : compile Tryd.prog Tryd.f65 = some pf65 := by kernel_rfl
theorem b65 {E : Env} (hP : E.P = Tryd.prog) (hc : ∀ f, FnOk E.P E.G f (E.call f)) : FnOk E.P E.G 65 (runFn E pf65) := FnOk.body hP (Checked.mixed Tryd.checked) Tryd.func65 (of_decide_eq_true (by kernel_rfl)) c65 hc
theorem c66 : compile Tryd.prog Tryd.f66 = some pf66 := by kernel_rfl
theorem b66 {E : Env} (hP : E.P = Tryd.prog) (hc : ∀ f, FnOk E.P E.G f (E.call f)) : FnOk E.P E.G 66 (runFn E pf66) := FnOk.body hP (Checked.mixed Tryd.checked) Tryd.func66 (of_decide_eq_true (by kernel_rfl)) c66 hc
theorem c67 : compile Tryd.prog Tryd.f67 = some pf67 := by kernel_rfl
theorem b67 {E : Env} (hP : E.P = Tryd.prog) (hc : ∀ f, FnOk E.P E.G f (E.call f)) : FnOk E.P E.G 67 (runFn E pf67) := FnOk.body hP (Checked.mixed Tryd.checked) Tryd.func67 (of_decide_eq_true (by kernel_rfl)) c67 hc
theorem c68 : compile Tryd.prog Tryd.f68 = some pf68 := by kernel_rfl
theorem b68 {E : Env} (hP : E.P = Tryd.prog) (hc : ∀ f, FnOk E.P E.G f (E.call f)) : FnOk E.P E.G 68 (runFn E pf68) := FnOk.body hP (Checked.mixed Tryd.checked) Tryd.func68 (of_decide_eq_true (by kernel_rfl)) c68 hc
theorem c69 : compile Tryd.prog Tryd.f69 = some pf69 := by kernel_rfl
theorem b69 {E : Env} (hP : E.P = Tryd.prog) (hc : ∀ f, FnOk E.P E.G f (E.call f)) : FnOk E.P E.G 69 (runFn E pf69) := FnOk.body hP (Checked.mixed Tryd.checked) Tryd.func69 (of_decide_eq_true (by kernel_rfl)) c69 hc
theorem c70 : compile Tryd.prog Tryd.f70 = some pf70 := by kernel_rfl
theorem b70 {E : Env} (hP : E.P = Tryd.prog) (hc : ∀ f, FnOk E.P E.G f (E.call f)) : FnOk E.P E.G 70 (runFn E pf70) := FnOk.body hP (Checked.mixed Tryd.checked) Tryd.func70 (of_decide_eq_true (by kernel_rfl)) c70 hc
theorem c71 : compile Tryd.prog Tryd.f71 = some pf71 := by kernel_rfl
theorem b71 {E : Env} (hP : E.P = Tryd.prog) (hc : ∀ f, FnOk E.P E.G f (E.call f)) : FnOk E.P E.G 71 (runFn E pf71) := FnOk.body hP (Checked.mixed Tryd.checked) Tryd.func71 (of_decide_eq_true (by kernel_rfl)) c71 hc
theorem c72 : compile Tryd.prog Tryd.f72 = some pf72 := by kernel_rfl
theorem b72 {E : Env} (hP : E.P = Tryd.prog) (hc : ∀ f, FnOk E.P E.G f (E.call f)) : FnOk E.P E.G 72 (runFn E pf72) := FnOk.body hP (Checked.mixed Tryd.checked) Tryd.func72 (of_decide_eq_true (by kernel_rfl)) c72 hc
theorem c73 : compile Tryd.prog Tryd.f73 = some pf73 := by kernel_rfl
theorem b73 {E : Env} (hP : E.P = Tryd.prog) (hc : ∀ f, FnOk E.P E.G f (E.call f)) : FnOk E.P E.G 73 (runFn E pf73) := FnOk.body hP (Checked.mixed Tryd.checked) Tryd.func73 (of_decide_eq_true (by kernel_rfl)) c73 hc
theorem c74 : compile Tryd.prog Tryd.f74 = some pf74 := by kernel_rfl
theorem b74 {E : Env} (hP : E.P = Tryd.prog) (hc : ∀ f, FnOk E.P E.G f (E.call f)) : FnOk E.P E.G 74 (runFn E pf74) := FnOk.body hP (Checked.mixed Tryd.checked) Tryd.func74 (of_decide_eq_true (by kernel_rfl)) c74 hc
theorem c75 : compile Tryd.prog Tryd.f75 = some pf75 := by kernel_rfl
theorem b75 {E : Env} (hP : E.P = Tryd.prog) (hc : ∀ f, FnOk E.P E.G f (E.call f)) : FnOk E.P E.G 75 (runFn E pf75) := FnOk.body hP (Checked.mixed Tryd.checked) Tryd.func75 (of_decide_eq_true (by kernel_rfl)) c75 hc
theorem c76 : compile Tryd.prog Tryd.f76 = some pf76 := by kernel_rfl
theorem b76 {E : Env} (hP : E.P = Tryd.prog) (hc : ∀ f, FnOk E.P E.G f (E.call f)) : FnOk E.P E.G 76 (runFn E pf76) := FnOk.body hP (Checked.mixed Tryd.checked) Tryd.func76 (of_decide_eq_true (by kernel_rfl)) c76 hc
theorem c77 : compile Tryd.prog Tryd.f77 = some pf77 := by kernel_rfl
theorem b77 {E : Env} (hP : E.P = Tryd.prog) (hc : ∀ f, FnOk E.P E.G f (E.call f)) : FnOk E.P E.G 77 (runFn E pf77) := FnOk.body hP (Checked.mixed Tryd.checked) Tryd.func77 (of_decide_eq_true (by kernel_rfl)) c77 hc
theorem c78 : compile Tryd.prog Tryd.f78 = some pf78 := by kernel_rfl
theorem b78 {E : Env} (hP : E.P = Tryd.prog) (hc : ∀ f, FnOk E.P E.G f (E.call f)) : FnOk E.P E.G 78 (runFn E pf78) := FnOk.body hP (Checked.mixed Tryd.checked) Tryd.func78 (of_decide_eq_true (by kernel_rfl)) c78 hc
theorem c79 : compile Tryd.prog Tryd.f79 = some pf79 := by kernel_rfl
theorem b79 {E : Env} (hP : E.P = Tryd.prog) (hc : ∀ f, FnOk E.P E.G f (E.call f)) : FnOk E.P E.G 79 (runFn E pf79) := FnOk.body hP (Checked.mixed Tryd.checked) Tryd.func79 (of_decide_eq_true (by kernel_rfl)) c79 hc
theorem c80 : compile Tryd.prog Tryd.f80 = some pf80 := by kernel_rfl
theorem b80 {E : Env} (hP : E.P = Tryd.prog) (hc : ∀ f, FnOk E.P E.G f (E.call f)) : FnOk E.P E.G 80 (runFn E pf80) := FnOk.body hP (Checked.mixed Tryd.checked) Tryd.func80 (of_decide_eq_true (by kernel_rfl)) c80 hc
theorem c81 : compile Tryd.prog Tryd.f81 = some pf81 := by kernel_rfl
theorem b81 {E : Env} (hP : E.P = Tryd.prog) (hc : ∀ f, FnOk E.P E.G f (E.call f)) : FnOk E.P E.G 81 (runFn E pf81) := FnOk.body hP (Checked.mixed Tryd.checked) Tryd.func81 (of_decide_eq_true (by kernel_rfl)) c81 hc
theorem c82 : compile Tryd.prog Tryd.f82 = some pf82 := by kernel_rfl
theorem b82 {E : Env} (hP : E.P = Tryd.prog) (hc : ∀ f, FnOk E.P E.G f (E.call f)) : FnOk E.P E.G 82 (runFn E pf82) := FnOk.body hP (Checked.mixed Tryd.checked) Tryd.func82 (of_decide_eq_true (by kernel_rfl)) c82 hc
theorem c83 : compile Tryd.prog Tryd.f83 = some pf83 := by kernel_rfl
theorem b83 {E : Env} (hP : E.P = Tryd.prog) (hc : ∀ f, FnOk E.P E.G f (E.call f)) : FnOk E.P E.G 83 (runFn E pf83) := FnOk.body hP (Checked.mixed Tryd.checked) Tryd.func83 (of_decide_eq_true (by kernel_rfl)) c83 hc
theorem c84 : compile Tryd.prog Tryd.f84 = some pf84 := by kernel_rfl
theorem b84 {E : Env} (hP : E.P = Tryd.prog) (hc : ∀ f, FnOk E.P E.G f (E.call f)) : FnOk E.P E.G 84 (runFn E pf84) := FnOk.body hP (Checked.mixed Tryd.checked) Tryd.func84 (of_decide_eq_true (by kernel_rfl)) c84 hc
end Go.Ev.T
