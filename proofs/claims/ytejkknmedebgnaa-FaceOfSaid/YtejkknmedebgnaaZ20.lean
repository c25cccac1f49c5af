/- FaceOf: for every input the law's function answers true, and its arguments read as before. No condition. -/
import Derived.Test.YtejkknmedebgnaaO
import Derived.Test.YtejkknmedebgnaaP20b
namespace Go.Proofs.Ytejkknmedebgnaa
theorem faceOf_holds : Rows.FaceOfSaid := faceOf_of fun a0 a1 h0 h1 => law_face a0 a1 h0 h1
end Go.Proofs.Ytejkknmedebgnaa
