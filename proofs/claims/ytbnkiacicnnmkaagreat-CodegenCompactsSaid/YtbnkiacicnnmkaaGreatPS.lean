/-  -/
import Derived.Test.YtbnkiacicnnmkaaGreatMB
attribute [go_sem_proc] Nat.reduceBEq Nat.reduceAdd Nat.reduceLT Nat.reduceLeDiff Nat.reduceEqDiff reduceCtorEq Int.reduceAdd Int.reduceSub Int.reduceNeg Int.reduceLE Int.reduceLT Int.reduceToNat Int.reduceBEq Int.reduceBNe Int.reduceEq Int.reduceNe Nat.reduceMul Nat.reduceSub
