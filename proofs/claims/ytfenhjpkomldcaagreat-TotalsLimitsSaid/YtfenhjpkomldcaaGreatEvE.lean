/- A tree evaluator over the model, proved against it (part E): where it answers, the call returns that answer. Conditions: none beyond its theorems' own. -/
import Derived.Test.YtfenhjpkomldcaaGreatEvD
set_option linter.unusedSimpArgs false
set_option linter.unusedVariables false
/- Steps, for arguments that are not closed. -/
namespace Go.Ev
open Go

section
variable {E : Env} {call : Orc} {fl n : Nat}
def open_ (o : AOper) (st : St) : Prop := match o.gd with | none => True | some (j, want) => getF st.fr j = .b want
end
end Go.Ev

