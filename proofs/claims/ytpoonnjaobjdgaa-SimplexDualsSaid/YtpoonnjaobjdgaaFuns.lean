/-
The functions of the program, each with its body.
-/
import Derived.Test.YtpoonnjaobjdgaaTab
namespace Go.Proofs.Ytpoonnjaobjdgaa
open Go Go.Fw
noncomputable def F_codewrightlaw35_SimplexDuals : Fun Try.prog := ⟨3, Try.f3, _, Try.func3, rfl, rfl⟩
noncomputable def F_codewrightref35_Check : Fun Try.prog := ⟨4, Try.f4, _, Try.func4, rfl, rfl⟩
noncomputable def F_codewrightlaw35_fits : Fun Try.prog := ⟨5, Try.f5, _, Try.func5, rfl, rfl⟩
noncomputable def F_simplex_Dual : Fun Try.prog := ⟨6, Try.f6, _, Try.func6, rfl, rfl⟩
noncomputable def F_codewrightref35_Same : Fun Try.prog := ⟨7, Try.f7, _, Try.func7, rfl, rfl⟩
noncomputable def F_codewrightref35_Dual : Fun Try.prog := ⟨8, Try.f8, _, Try.func8, rfl, rfl⟩
noncomputable def F_codewrightref35_Canon : Fun Try.prog := ⟨9, Try.f9, _, Try.func9, rfl, rfl⟩
noncomputable def F_codewrightref35_Small : Fun Try.prog := ⟨10, Try.f10, _, Try.func10, rfl, rfl⟩
noncomputable def F_simplex_Check : Fun Try.prog := ⟨11, Try.f11, _, Try.func11, rfl, rfl⟩
noncomputable def F_simplex_negative : Fun Try.prog := ⟨12, Try.f12, _, Try.func12, rfl, rfl⟩
noncomputable def F_rational_Neg : Fun Try.prog := ⟨13, Try.f13, _, Try.func13, rfl, rfl⟩
noncomputable def F_codewrightref02_SameList : Fun Try.prog := ⟨14, Try.f14, _, Try.func14, rfl, rfl⟩
noncomputable def F_codewrightref35_negative : Fun Try.prog := ⟨15, Try.f15, _, Try.func15, rfl, rfl⟩
noncomputable def F_codewrightref02_Neg : Fun Try.prog := ⟨16, Try.f16, _, Try.func16, rfl, rfl⟩
noncomputable def F_codewrightref35_short : Fun Try.prog := ⟨17, Try.f17, _, Try.func17, rfl, rfl⟩
noncomputable def F_rational_canonical : Fun Try.prog := ⟨18, Try.f18, _, Try.func18, rfl, rfl⟩
noncomputable def F_codewrightref02_Same : Fun Try.prog := ⟨19, Try.f19, _, Try.func19, rfl, rfl⟩
noncomputable def F_codewrightref02_Trim : Fun Try.prog := ⟨20, Try.f20, _, Try.func20, rfl, rfl⟩
noncomputable def F_codewrightref02_Make : Fun Try.prog := ⟨21, Try.f21, _, Try.func21, rfl, rfl⟩
noncomputable def F_nat_Bits : Fun Try.prog := ⟨22, Try.f22, _, Try.func22, rfl, rfl⟩
noncomputable def F_rational_one : Fun Try.prog := ⟨23, Try.f23, _, Try.func23, rfl, rfl⟩
noncomputable def F_nat_Gcd : Fun Try.prog := ⟨24, Try.f24, _, Try.func24, rfl, rfl⟩
noncomputable def F_nat_DivMod : Fun Try.prog := ⟨25, Try.f25, _, Try.func25, rfl, rfl⟩
noncomputable def F_codewrightref01_Same : Fun Try.prog := ⟨26, Try.f26, _, Try.func26, rfl, rfl⟩
noncomputable def F_codewrightref01_Zero : Fun Try.prog := ⟨27, Try.f27, _, Try.func27, rfl, rfl⟩
noncomputable def F_codewrightref01_Gcd : Fun Try.prog := ⟨28, Try.f28, _, Try.func28, rfl, rfl⟩
noncomputable def F_codewrightref01_DivMod : Fun Try.prog := ⟨29, Try.f29, _, Try.func29, rfl, rfl⟩
noncomputable def F_nat_short : Fun Try.prog := ⟨30, Try.f30, _, Try.func30, rfl, rfl⟩
noncomputable def F_bits_Len32 : Fun Try.prog := ⟨31, Try.f31, _, Try.func31, rfl, rfl⟩
noncomputable def F_nat_Trim : Fun Try.prog := ⟨32, Try.f32, _, Try.func32, rfl, rfl⟩
noncomputable def F_nat_Cmp : Fun Try.prog := ⟨33, Try.f33, _, Try.func33, rfl, rfl⟩
noncomputable def F_nat_digit : Fun Try.prog := ⟨34, Try.f34, _, Try.func34, rfl, rfl⟩
noncomputable def F_nat_Of : Fun Try.prog := ⟨35, Try.f35, _, Try.func35, rfl, rfl⟩
noncomputable def F_nat_long : Fun Try.prog := ⟨36, Try.f36, _, Try.func36, rfl, rfl⟩
noncomputable def F_codewrightref01_Trim : Fun Try.prog := ⟨37, Try.f37, _, Try.func37, rfl, rfl⟩
noncomputable def F_codewrightref01_Bits : Fun Try.prog := ⟨38, Try.f38, _, Try.func38, rfl, rfl⟩
noncomputable def F_codewrightref01_shift : Fun Try.prog := ⟨39, Try.f39, _, Try.func39, rfl, rfl⟩
noncomputable def F_codewrightref01_Cmp : Fun Try.prog := ⟨40, Try.f40, _, Try.func40, rfl, rfl⟩
noncomputable def F_codewrightref01_Sub : Fun Try.prog := ⟨41, Try.f41, _, Try.func41, rfl, rfl⟩
noncomputable def F_codewrightref01_Add : Fun Try.prog := ⟨42, Try.f42, _, Try.func42, rfl, rfl⟩
noncomputable def F_bits_LeadingZeros32 : Fun Try.prog := ⟨43, Try.f43, _, Try.func43, rfl, rfl⟩
noncomputable def F_nat_shift : Fun Try.prog := ⟨44, Try.f44, _, Try.func44, rfl, rfl⟩
noncomputable def F_nat_step : Fun Try.prog := ⟨45, Try.f45, _, Try.func45, rfl, rfl⟩
noncomputable def F_codewrightref01_limb : Fun Try.prog := ⟨46, Try.f46, _, Try.func46, rfl, rfl⟩
end Go.Proofs.Ytpoonnjaobjdgaa
