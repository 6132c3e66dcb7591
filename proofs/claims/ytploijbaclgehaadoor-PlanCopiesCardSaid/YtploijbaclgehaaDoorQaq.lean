/- Part Qaq of the proof: walks on a machine that is proved sound. -/
import Derived.Test.YtploijbaclgehaaDoorQan
set_option linter.unusedVariables false
set_option linter.unusedSimpArgs false
set_option maxRecDepth 200000
