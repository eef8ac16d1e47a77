/- What the row asks of the function and those that it reaches; no condition. -/
import Derived.Test.YthlkmffimhnehaaGreatRp
set_option linter.unusedSimpArgs false
set_option linter.unusedVariables false
namespace Go.Proofs.YthlkmffimhnehaaGreat
open Go
set_option maxRecDepth 10000
theorem clo3:Tryz.prog.closure 3=[3,10,11,17,36,76,161,242,77,78,37,79,80,81,82,162,38,12,13,16,35,21,34,33,67,68,140,141,142,146,56,209,147,208,143,221,69,70,144,145,71,72,148,210,211,264,267,316,321,348,216,192,51,49,106,50,262,263,280,314,318,319,346,320,323,215,212,265,213,214,217,266,315,268,317,347,203,283,53,269,218,219,220,222,223,270,271,73,149,150,151,224,152,225,153,154,155,194,226,272,273,274,275,276,277,74,40,85,169,18,39,83,84,163,164,165,166,167,168,170,243,293,296,245,244,246,294,295,195,253,247,248,297,249,298,338,339,361,340,362,299,341,342,300,301,302,343,344,363,366,368,369,370,372,373,377,371,374,375,376,367,171,123,196,254,255,256,307,308,197,257,258,259,260,309,310,32,61,121,122,124,125,126,198,127,128,129,199,130,200,261,311,312,313,62,25,131,63,132,201,202,64,133,134,137,205,206,52,204,135,65,136,138,66,139,207,156,227,278,279,282,281,228,229,230,231,284,285,157,232,233,237,290,291,324,325,350,326,327,328,286,329,330,351,352,353,331,332,354,355,357,365,333,356,334,335,358,359,336,360,337,29,55,114,57,115,116,118,193,117,119,120,27,158,234,287,322,349,364,288,292,289,235,236,159,238,239,240,160,241,75,14,15,19]:=by kernel_rfl
theorem inp3:Tryz.prog.inPlace 3=Rows.tokenScansRow.inPlace:=by
 unfold Program.inPlace;rw[clo3]
 kernel_rfl
theorem unf3:Tryz.prog.unfollowed 3=true:=by
 unfold Program.unfollowed;rw[clo3]
 kernel_rfl
theorem rec3:Tryz.prog.recurses 3=true:=by
 unfold Program.recurses;rw[unf3]
 rfl
theorem nam3:Tryz.prog.varsNamed 3=Rows.tokenScansRow.named:=by
 unfold Program.varsNamed;rw[clo3]
 kernel_rfl
theorem joined3:joinedFacts Tryz.prog 3 Tryz.f3 Rows.tokenScansSpec Rows.tokenScansRow=true:=by
 unfold joinedFacts;rw[inp3,unf3,rec3,nam3,pw_laid,pw_maps,pw_keys,pw_heard,pw_enter,pw_lifts];exact(and2 (and2 (and2 (and2 (and2 (and2 (and2 (and2 (and2 (and2 (and2 (and2 (and2 (and2 (and2 (and2 (and2 (and2 (and2 (and2 (and2 (and2 (and2 (and2 (and2 (and2 (and2 (and2 (and2 (and2 (and2 (by kernel_rfl) (by kernel_rfl)) (by kernel_rfl)) (by kernel_rfl)) (by kernel_rfl)) (by kernel_rfl)) (by kernel_rfl)) (by kernel_rfl)) (by kernel_rfl)) (beq_self_eq_true _)) (by kernel_rfl)) (by kernel_rfl)) (beq_self_eq_true _)) (by kernel_rfl)) (by kernel_rfl)) (by kernel_rfl)) (by kernel_rfl)) (by kernel_rfl)) (by kernel_rfl)) (by kernel_rfl)) (by kernel_rfl)) (by kernel_rfl)) (by kernel_rfl)) (by kernel_rfl)) (by kernel_rfl)) (by kernel_rfl)) (by kernel_rfl)) (pw_make)) (by kernel_rfl)) (by kernel_rfl)) (by kernel_rfl)) (by kernel_rfl))
end Go.Proofs.YthlkmffimhnehaaGreat
