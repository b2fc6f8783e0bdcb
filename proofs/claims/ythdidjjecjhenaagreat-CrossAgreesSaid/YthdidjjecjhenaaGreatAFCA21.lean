/- The statement that this claim is about: whatever the input, the law says true; its card, tied to the text of the program. -/
import Derived.Test.YthdidjjecjhenaaGreatAF19
set_option linter.all false
set_option maxRecDepth 100000
namespace Go.Proofs.YthdidjjecjhenaaGreat
open Go Go.Proofs Go.Abs
theorem agrees_lifted (os : Os) (started : os.Started) (H : Type) (enc : TypeId × Value → H) :
 ReturnsInHanded {} Tryz.checked os 4 .any (Rows.crossAgreesSpec.pre6 enc Tryz.prog Tryz.f4 Rows.crossAgreesRow.domain false) (Rows.crossAgreesSpec.post enc Tryz.prog Tryz.f4 false true false false) := by
 refine returnsInHanded_of_change (C := Tryz.checked) own started (by kernel_rfl) Tryz.func4
  (ChangeSpec.witness6 (enc := enc) (C := Tryz.checked) false ⟨#[],#[.agg #[.int .i64 0,.slice none 0 0,.slice none 0 0,.slice none 0 0,.slice none 0 0,.slice none 0 0,.slice none 0 0,.slice none 0 0],.agg #[.int .i64 0,.slice none 0 0,.slice none 0 0,.slice none 0 0,.slice none 0 0,.slice none 0 0,.slice none 0 0,.slice none 0 0],.slice none 0 0,.slice none 0 0,.slice none 0 0],[]⟩ 8 (by kernel_rfl) (by kernel_rfl) (by kernel_rfl) (by kernel_rfl)) ?_
 intro W base args ds gs before hval hW _ _;refine law_contract (P := Tryz.prog) (shs := [shMo,shMo,shBs,shBs,shRws]) laid rfl ?_ (by kernel_rfl) ⟨_,rfl,by kernel_rfl⟩ rfl ?_ ?_ W base args ds gs before hval hW
 ·intro i sh t h1 h2;have : i < 5 := by have := (zqe h1).1;simpa using this
  have k0 : Sh.ok Tryz.prog (shMo) 28 = true := by kernel_rfl
  have k1 : Sh.ok Tryz.prog (shMo) 28 = true := by kernel_rfl
  have k2 : Sh.ok Tryz.prog (shBs) 31 = true := by kernel_rfl
  have k3 : Sh.ok Tryz.prog (shBs) 31 = true := by kernel_rfl
  have k4 : Sh.ok Tryz.prog (shRws) 32 = true := by kernel_rfl
  match i,this with
  | 0,_ => cases h1;cases h2;exact k0
  | 1,_ => cases h1;cases h2;exact k1
  | 2,_ => cases h1;cases h2;exact k2
  | 3,_ => cases h1;cases h2;exact k3
  | 4,_ => cases h1;cases h2;exact k4
 ·intro ds hd
  match ds,hd with
  | [d1,d2,d3,d4,d5],_ => exact ⟨rfl,rfl,rfl⟩
 ·intro us hus;simp only [Sh.Iss] at hus;obtain ⟨u0,_,rfl,h0,u1,_,rfl,h1,u2,_,rfl,h2,u3,_,rfl,h3,u4,_,rfl,h4,rfl⟩ := hus;obtain ⟨x0,rfl⟩ := is_mo h0;obtain ⟨x1,rfl⟩ := is_mo h1;obtain ⟨x2,rfl⟩ := is_bools h2;obtain ⟨x3,rfl⟩ := is_bools h3;obtain ⟨x4,rfl⟩ := is_rws h4;exact ev_agrees x0 x1 x2 x3 x4
theorem agrees_holds : Rows.CrossAgreesSaid :=
 OpenClaim.holds_of_wide 4 Tryz.f4 rfl rfl rfl rfl rfl rfl rfl ⟨rfl,rfl,rfl,rfl,rfl⟩ rfl rfl rfl rfl rfl (by kernel_rfl) Tryz.func4 (by kernel_rfl)
  (zqs (by kernel_rfl)) (by unfold Func.isWrapper;first | (rw [if_pos (by decide +kernel)];kernel_rfl) | (rw [if_neg (by decide +kernel)];exact ⟨rfl,rfl⟩))
  (fun os started H enc _ => agrees_lifted os started H enc)
#print axioms agrees_holds
end Go.Proofs.YthdidjjecjhenaaGreat
