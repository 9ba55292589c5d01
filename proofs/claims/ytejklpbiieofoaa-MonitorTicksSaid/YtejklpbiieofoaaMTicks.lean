/- 'dynpos/dynposlaw07.MonitorTicks': the tree of its walk; each of its leaves is true. -/
import Derived.Test.YtejklpbiieofoaaMTicksP0
set_option linter.unusedSimpArgs false
set_option linter.unusedVariables false
set_option maxRecDepth 100000
namespace Go.Proofs.Ytejklpbiieofoaa.monitorTicks
open Go.RowKit Ev
def tree : T Leaf :=
(.call 11 [(.mn (.v 0) (.lit 600)), (.v 1), (.lit 0)] 5
(.call 900 [(.lit 7), (.mn (.v 0) (.lit 600)), (.v 6)] 2
(.ite (.lt (.lit 0) (.v 7))
 (.call 900 [(.lit 5), (.mn (.v 0) (.lit 600)), (.v 8)] 2
 (.call 12 [(.add (.lit 0) (.sw (.v 9) 0 (.lit 1) (.sw (.v 9) 1 (.lit 1) (.sw (.v 9) 2 (.lit 2) (.sw (.v 9) 3 (.lit 5) (.lit 0)))))), (.mn (.v 0) (.lit 600)), (.v 1), (.v 10)] 5
 (.ite (.lt (.lit 0) (.sub (.v 7) (.lit 1)))
  (.call 900 [(.lit 5), (.mn (.v 0) (.lit 600)), (.v 15)] 2
  (.call 12 [(.add (.add (.lit 0) (.sw (.v 9) 0 (.lit 1) (.sw (.v 9) 1 (.lit 1) (.sw (.v 9) 2 (.lit 2) (.sw (.v 9) 3 (.lit 5) (.lit 0)))))) (.sw (.v 16) 0 (.lit 1) (.sw (.v 16) 1 (.lit 1) (.sw (.v 16) 2 (.lit 2) (.sw (.v 16) 3 (.lit 5) (.lit 0)))))), (.mn (.v 0) (.lit 600)), (.v 1), (.v 17)] 5
  (.ite (.lt (.lit 0) (.sub (.sub (.v 7) (.lit 1)) (.lit 1)))
   (.call 900 [(.lit 5), (.mn (.v 0) (.lit 600)), (.v 22)] 2
   (.call 12 [(.add (.add (.add (.lit 0) (.sw (.v 9) 0 (.lit 1) (.sw (.v 9) 1 (.lit 1) (.sw (.v 9) 2 (.lit 2) (.sw (.v 9) 3 (.lit 5) (.lit 0)))))) (.sw (.v 16) 0 (.lit 1) (.sw (.v 16) 1 (.lit 1) (.sw (.v 16) 2 (.lit 2) (.sw (.v 16) 3 (.lit 5) (.lit 0)))))) (.sw (.v 23) 0 (.lit 1) (.sw (.v 23) 1 (.lit 1) (.sw (.v 23) 2 (.lit 2) (.sw (.v 23) 3 (.lit 5) (.lit 0)))))), (.mn (.v 0) (.lit 600)), (.v 1), (.v 24)] 5
   (.ite (.lt (.lit 0) (.sub (.sub (.sub (.v 7) (.lit 1)) (.lit 1)) (.lit 1)))
    (.call 900 [(.lit 5), (.mn (.v 0) (.lit 600)), (.v 29)] 2
    (.call 12 [(.add (.add (.add (.add (.lit 0) (.sw (.v 9) 0 (.lit 1) (.sw (.v 9) 1 (.lit 1) (.sw (.v 9) 2 (.lit 2) (.sw (.v 9) 3 (.lit 5) (.lit 0)))))) (.sw (.v 16) 0 (.lit 1) (.sw (.v 16) 1 (.lit 1) (.sw (.v 16) 2 (.lit 2) (.sw (.v 16) 3 (.lit 5) (.lit 0)))))) (.sw (.v 23) 0 (.lit 1) (.sw (.v 23) 1 (.lit 1) (.sw (.v 23) 2 (.lit 2) (.sw (.v 23) 3 (.lit 5) (.lit 0)))))) (.sw (.v 30) 0 (.lit 1) (.sw (.v 30) 1 (.lit 1) (.sw (.v 30) 2 (.lit 2) (.sw (.v 30) 3 (.lit 5) (.lit 0)))))), (.mn (.v 0) (.lit 600)), (.v 1), (.v 31)] 5
    (.ite (.lt (.lit 0) (.sub (.sub (.sub (.sub (.v 7) (.lit 1)) (.lit 1)) (.lit 1)) (.lit 1)))
     (.call 900 [(.lit 5), (.mn (.v 0) (.lit 600)), (.v 36)] 2
     (.call 12 [(.add (.add (.add (.add (.add (.lit 0) (.sw (.v 9) 0 (.lit 1) (.sw (.v 9) 1 (.lit 1) (.sw (.v 9) 2 (.lit 2) (.sw (.v 9) 3 (.lit 5) (.lit 0)))))) (.sw (.v 16) 0 (.lit 1) (.sw (.v 16) 1 (.lit 1) (.sw (.v 16) 2 (.lit 2) (.sw (.v 16) 3 (.lit 5) (.lit 0)))))) (.sw (.v 23) 0 (.lit 1) (.sw (.v 23) 1 (.lit 1) (.sw (.v 23) 2 (.lit 2) (.sw (.v 23) 3 (.lit 5) (.lit 0)))))) (.sw (.v 30) 0 (.lit 1) (.sw (.v 30) 1 (.lit 1) (.sw (.v 30) 2 (.lit 2) (.sw (.v 30) 3 (.lit 5) (.lit 0)))))) (.sw (.v 37) 0 (.lit 1) (.sw (.v 37) 1 (.lit 1) (.sw (.v 37) 2 (.lit 2) (.sw (.v 37) 3 (.lit 5) (.lit 0)))))), (.mn (.v 0) (.lit 600)), (.v 1), (.v 38)] 5
     (.ite (.lt (.lit 0) (.sub (.sub (.sub (.sub (.sub (.v 7) (.lit 1)) (.lit 1)) (.lit 1)) (.lit 1)) (.lit 1)))
      (.call 900 [(.lit 5), (.mn (.v 0) (.lit 600)), (.v 43)] 2
      (.call 12 [(.add (.add (.add (.add (.add (.add (.lit 0) (.sw (.v 9) 0 (.lit 1) (.sw (.v 9) 1 (.lit 1) (.sw (.v 9) 2 (.lit 2) (.sw (.v 9) 3 (.lit 5) (.lit 0)))))) (.sw (.v 16) 0 (.lit 1) (.sw (.v 16) 1 (.lit 1) (.sw (.v 16) 2 (.lit 2) (.sw (.v 16) 3 (.lit 5) (.lit 0)))))) (.sw (.v 23) 0 (.lit 1) (.sw (.v 23) 1 (.lit 1) (.sw (.v 23) 2 (.lit 2) (.sw (.v 23) 3 (.lit 5) (.lit 0)))))) (.sw (.v 30) 0 (.lit 1) (.sw (.v 30) 1 (.lit 1) (.sw (.v 30) 2 (.lit 2) (.sw (.v 30) 3 (.lit 5) (.lit 0)))))) (.sw (.v 37) 0 (.lit 1) (.sw (.v 37) 1 (.lit 1) (.sw (.v 37) 2 (.lit 2) (.sw (.v 37) 3 (.lit 5) (.lit 0)))))) (.sw (.v 44) 0 (.lit 1) (.sw (.v 44) 1 (.lit 1) (.sw (.v 44) 2 (.lit 2) (.sw (.v 44) 3 (.lit 5) (.lit 0)))))), (.mn (.v 0) (.lit 600)), (.v 1), (.v 45)] 5
      (.call 26 [(.v 2), (.v 3), (.v 4), (.v 5), (.v 11), (.v 12), (.v 13), (.v 14), (.v 18), (.v 19), (.v 20), (.v 21), (.v 25), (.v 26), (.v 27), (.v 28), (.v 32), (.v 33), (.v 34), (.v 35), (.v 39), (.v 40), (.v 41), (.v 42), (.v 46), (.v 47), (.v 48), (.v 49)] 12
      (.ite (.and (.not (.eq (.v 62) (.lit 0))) (.not (.eq (.v 62) (.lit 16))))
       (.leaf ((.bool (.lit false)), [], []))
       (.call 900 [(.lit 12), (.mn (.v 0) (.lit 600)), (.v 50)] 2
       (.call 27 [(.v 2), (.v 3), (.v 4), (.v 5), (.v 51), (.v 52), (.v 53), (.v 54), (.v 55), (.v 56), (.v 57), (.v 58), (.v 59), (.v 60), (.v 61), (.add (.v 51) (.v 63))] 12
       (.call 900 [(.lit 5), (.mn (.v 0) (.lit 600)), (.v 64)] 2
       (.call 27 [(.v 2), (.v 3), (.v 4), (.v 5), (.v 65), (.v 66), (.v 67), (.v 68), (.v 69), (.v 70), (.v 71), (.v 72), (.v 73), (.v 74), (.v 75), (.add (.add (.v 51) (.v 63)) (.v 77))] 12
       (.call 27 [(.v 2), (.v 3), (.v 4), (.v 5), (.lit 0), (.lit 0), (.lit 0), (.lit 0), (.lit 0), (.lit 0), (.lit 0), (.lit 0), (.lit 0), (.lit 0), (.lit 0), (.add (.v 51) (.v 63))] 12
       (.ite (.or (.or (.or (.not (.eq (.v 76) (.lit 0))) (.not (.eq (.v 90) (.lit 0)))) (.not (.eq (.v 102) (.lit 0)))) (.not (.and (.and (.eq (.v 91) (.lit 0)) (.and (.eq (.v 92) (.lit 0)) (.and (.eq (.v 93) (.lit 0)) (.eq (.v 94) (.lit 0))))) (.and (.and (.eq (.v 95) (.lit 0)) (.and (.eq (.v 96) (.lit 0)) (.and (.eq (.v 97) (.lit 0)) (.eq (.v 98) (.lit 0))))) (.and (.not (.nz (.v 99))) (.and (.eq (.v 100) (.lit 0)) (.eq (.v 101) (.lit 0))))))))
        (.leaf ((.bool (.lit false)), [], []))
        (.ite (.or (.or (.not (.and (.and (.eq (.v 65) (.v 51)) (.and (.eq (.v 66) (.v 52)) (.and (.eq (.v 67) (.v 53)) (.eq (.v 68) (.v 54))))) (.and (.and (.eq (.v 69) (.v 55)) (.and (.eq (.v 70) (.v 56)) (.and (.eq (.v 71) (.v 57)) (.eq (.v 72) (.v 58))))) (.and (.iff (.nz (.v 73)) (.nz (.v 59))) (.eq (.v 74) (.v 60)))))) (.and (.not (.eq (.v 75) (.v 61))) (.not (.eq (.v 75) (.lit 2))))) (.and (.eq (.v 75) (.lit 2)) (.not (.and (.and (.eq (.v 79) (.v 65)) (.and (.eq (.v 80) (.v 66)) (.and (.eq (.v 81) (.v 67)) (.eq (.v 82) (.v 68))))) (.and (.and (.eq (.v 83) (.v 69)) (.and (.eq (.v 84) (.v 70)) (.and (.eq (.v 85) (.v 71)) (.eq (.v 86) (.v 72))))) (.and (.iff (.nz (.v 87)) (.nz (.v 73))) (.and (.eq (.v 88) (.v 74)) (.eq (.v 89) (.v 75)))))))))
         (.leaf ((.bool (.lit false)), [], []))
         (.call 10 [] 1
         (.leaf ((.bool (.lit true)), [], []))
         )
        )
       )
       )
       )
       )
       )
       )
      )
      )
      )
      )
      (.call 25 [(.v 2), (.v 3), (.v 4), (.v 5), (.v 11), (.v 12), (.v 13), (.v 14), (.v 18), (.v 19), (.v 20), (.v 21), (.v 25), (.v 26), (.v 27), (.v 28), (.v 32), (.v 33), (.v 34), (.v 35), (.v 39), (.v 40), (.v 41), (.v 42)] 12
      (.ite (.and (.not (.eq (.v 55) (.lit 0))) (.not (.eq (.v 55) (.lit 16))))
       (.leaf ((.bool (.lit false)), [], []))
       (.call 900 [(.lit 12), (.mn (.v 0) (.lit 600)), (.v 43)] 2
       (.call 27 [(.v 2), (.v 3), (.v 4), (.v 5), (.v 44), (.v 45), (.v 46), (.v 47), (.v 48), (.v 49), (.v 50), (.v 51), (.v 52), (.v 53), (.v 54), (.add (.v 44) (.v 56))] 12
       (.call 900 [(.lit 5), (.mn (.v 0) (.lit 600)), (.v 57)] 2
       (.call 27 [(.v 2), (.v 3), (.v 4), (.v 5), (.v 58), (.v 59), (.v 60), (.v 61), (.v 62), (.v 63), (.v 64), (.v 65), (.v 66), (.v 67), (.v 68), (.add (.add (.v 44) (.v 56)) (.v 70))] 12
       (.call 27 [(.v 2), (.v 3), (.v 4), (.v 5), (.lit 0), (.lit 0), (.lit 0), (.lit 0), (.lit 0), (.lit 0), (.lit 0), (.lit 0), (.lit 0), (.lit 0), (.lit 0), (.add (.v 44) (.v 56))] 12
       (.ite (.or (.or (.or (.not (.eq (.v 69) (.lit 0))) (.not (.eq (.v 83) (.lit 0)))) (.not (.eq (.v 95) (.lit 0)))) (.not (.and (.and (.eq (.v 84) (.lit 0)) (.and (.eq (.v 85) (.lit 0)) (.and (.eq (.v 86) (.lit 0)) (.eq (.v 87) (.lit 0))))) (.and (.and (.eq (.v 88) (.lit 0)) (.and (.eq (.v 89) (.lit 0)) (.and (.eq (.v 90) (.lit 0)) (.eq (.v 91) (.lit 0))))) (.and (.not (.nz (.v 92))) (.and (.eq (.v 93) (.lit 0)) (.eq (.v 94) (.lit 0))))))))
        (.leaf ((.bool (.lit false)), [], []))
        (.ite (.or (.or (.not (.and (.and (.eq (.v 58) (.v 44)) (.and (.eq (.v 59) (.v 45)) (.and (.eq (.v 60) (.v 46)) (.eq (.v 61) (.v 47))))) (.and (.and (.eq (.v 62) (.v 48)) (.and (.eq (.v 63) (.v 49)) (.and (.eq (.v 64) (.v 50)) (.eq (.v 65) (.v 51))))) (.and (.iff (.nz (.v 66)) (.nz (.v 52))) (.eq (.v 67) (.v 53)))))) (.and (.not (.eq (.v 68) (.v 54))) (.not (.eq (.v 68) (.lit 2))))) (.and (.eq (.v 68) (.lit 2)) (.not (.and (.and (.eq (.v 72) (.v 58)) (.and (.eq (.v 73) (.v 59)) (.and (.eq (.v 74) (.v 60)) (.eq (.v 75) (.v 61))))) (.and (.and (.eq (.v 76) (.v 62)) (.and (.eq (.v 77) (.v 63)) (.and (.eq (.v 78) (.v 64)) (.eq (.v 79) (.v 65))))) (.and (.iff (.nz (.v 80)) (.nz (.v 66))) (.and (.eq (.v 81) (.v 67)) (.eq (.v 82) (.v 68)))))))))
         (.leaf ((.bool (.lit false)), [], []))
         (.call 10 [] 1
         (.leaf ((.bool (.lit true)), [], []))
         )
        )
       )
       )
       )
       )
       )
       )
      )
      )
     )
     )
     )
     (.call 24 [(.v 2), (.v 3), (.v 4), (.v 5), (.v 11), (.v 12), (.v 13), (.v 14), (.v 18), (.v 19), (.v 20), (.v 21), (.v 25), (.v 26), (.v 27), (.v 28), (.v 32), (.v 33), (.v 34), (.v 35)] 12
     (.ite (.and (.not (.eq (.v 48) (.lit 0))) (.not (.eq (.v 48) (.lit 16))))
      (.leaf ((.bool (.lit false)), [], []))
      (.call 900 [(.lit 12), (.mn (.v 0) (.lit 600)), (.v 36)] 2
      (.call 27 [(.v 2), (.v 3), (.v 4), (.v 5), (.v 37), (.v 38), (.v 39), (.v 40), (.v 41), (.v 42), (.v 43), (.v 44), (.v 45), (.v 46), (.v 47), (.add (.v 37) (.v 49))] 12
      (.call 900 [(.lit 5), (.mn (.v 0) (.lit 600)), (.v 50)] 2
      (.call 27 [(.v 2), (.v 3), (.v 4), (.v 5), (.v 51), (.v 52), (.v 53), (.v 54), (.v 55), (.v 56), (.v 57), (.v 58), (.v 59), (.v 60), (.v 61), (.add (.add (.v 37) (.v 49)) (.v 63))] 12
      (.call 27 [(.v 2), (.v 3), (.v 4), (.v 5), (.lit 0), (.lit 0), (.lit 0), (.lit 0), (.lit 0), (.lit 0), (.lit 0), (.lit 0), (.lit 0), (.lit 0), (.lit 0), (.add (.v 37) (.v 49))] 12
      (.ite (.or (.or (.or (.not (.eq (.v 62) (.lit 0))) (.not (.eq (.v 76) (.lit 0)))) (.not (.eq (.v 88) (.lit 0)))) (.not (.and (.and (.eq (.v 77) (.lit 0)) (.and (.eq (.v 78) (.lit 0)) (.and (.eq (.v 79) (.lit 0)) (.eq (.v 80) (.lit 0))))) (.and (.and (.eq (.v 81) (.lit 0)) (.and (.eq (.v 82) (.lit 0)) (.and (.eq (.v 83) (.lit 0)) (.eq (.v 84) (.lit 0))))) (.and (.not (.nz (.v 85))) (.and (.eq (.v 86) (.lit 0)) (.eq (.v 87) (.lit 0))))))))
       (.leaf ((.bool (.lit false)), [], []))
       (.ite (.or (.or (.not (.and (.and (.eq (.v 51) (.v 37)) (.and (.eq (.v 52) (.v 38)) (.and (.eq (.v 53) (.v 39)) (.eq (.v 54) (.v 40))))) (.and (.and (.eq (.v 55) (.v 41)) (.and (.eq (.v 56) (.v 42)) (.and (.eq (.v 57) (.v 43)) (.eq (.v 58) (.v 44))))) (.and (.iff (.nz (.v 59)) (.nz (.v 45))) (.eq (.v 60) (.v 46)))))) (.and (.not (.eq (.v 61) (.v 47))) (.not (.eq (.v 61) (.lit 2))))) (.and (.eq (.v 61) (.lit 2)) (.not (.and (.and (.eq (.v 65) (.v 51)) (.and (.eq (.v 66) (.v 52)) (.and (.eq (.v 67) (.v 53)) (.eq (.v 68) (.v 54))))) (.and (.and (.eq (.v 69) (.v 55)) (.and (.eq (.v 70) (.v 56)) (.and (.eq (.v 71) (.v 57)) (.eq (.v 72) (.v 58))))) (.and (.iff (.nz (.v 73)) (.nz (.v 59))) (.and (.eq (.v 74) (.v 60)) (.eq (.v 75) (.v 61)))))))))
        (.leaf ((.bool (.lit false)), [], []))
        (.call 10 [] 1
        (.leaf ((.bool (.lit true)), [], []))
        )
       )
      )
      )
      )
      )
      )
      )
     )
     )
    )
    )
    )
    (.call 23 [(.v 2), (.v 3), (.v 4), (.v 5), (.v 11), (.v 12), (.v 13), (.v 14), (.v 18), (.v 19), (.v 20), (.v 21), (.v 25), (.v 26), (.v 27), (.v 28)] 12
    (.ite (.and (.not (.eq (.v 41) (.lit 0))) (.not (.eq (.v 41) (.lit 16))))
     (.leaf ((.bool (.lit false)), [], []))
     (.call 900 [(.lit 12), (.mn (.v 0) (.lit 600)), (.v 29)] 2
     (.call 27 [(.v 2), (.v 3), (.v 4), (.v 5), (.v 30), (.v 31), (.v 32), (.v 33), (.v 34), (.v 35), (.v 36), (.v 37), (.v 38), (.v 39), (.v 40), (.add (.v 30) (.v 42))] 12
     (.call 900 [(.lit 5), (.mn (.v 0) (.lit 600)), (.v 43)] 2
     (.call 27 [(.v 2), (.v 3), (.v 4), (.v 5), (.v 44), (.v 45), (.v 46), (.v 47), (.v 48), (.v 49), (.v 50), (.v 51), (.v 52), (.v 53), (.v 54), (.add (.add (.v 30) (.v 42)) (.v 56))] 12
     (.call 27 [(.v 2), (.v 3), (.v 4), (.v 5), (.lit 0), (.lit 0), (.lit 0), (.lit 0), (.lit 0), (.lit 0), (.lit 0), (.lit 0), (.lit 0), (.lit 0), (.lit 0), (.add (.v 30) (.v 42))] 12
     (.ite (.or (.or (.or (.not (.eq (.v 55) (.lit 0))) (.not (.eq (.v 69) (.lit 0)))) (.not (.eq (.v 81) (.lit 0)))) (.not (.and (.and (.eq (.v 70) (.lit 0)) (.and (.eq (.v 71) (.lit 0)) (.and (.eq (.v 72) (.lit 0)) (.eq (.v 73) (.lit 0))))) (.and (.and (.eq (.v 74) (.lit 0)) (.and (.eq (.v 75) (.lit 0)) (.and (.eq (.v 76) (.lit 0)) (.eq (.v 77) (.lit 0))))) (.and (.not (.nz (.v 78))) (.and (.eq (.v 79) (.lit 0)) (.eq (.v 80) (.lit 0))))))))
      (.leaf ((.bool (.lit false)), [], []))
      (.ite (.or (.or (.not (.and (.and (.eq (.v 44) (.v 30)) (.and (.eq (.v 45) (.v 31)) (.and (.eq (.v 46) (.v 32)) (.eq (.v 47) (.v 33))))) (.and (.and (.eq (.v 48) (.v 34)) (.and (.eq (.v 49) (.v 35)) (.and (.eq (.v 50) (.v 36)) (.eq (.v 51) (.v 37))))) (.and (.iff (.nz (.v 52)) (.nz (.v 38))) (.eq (.v 53) (.v 39)))))) (.and (.not (.eq (.v 54) (.v 40))) (.not (.eq (.v 54) (.lit 2))))) (.and (.eq (.v 54) (.lit 2)) (.not (.and (.and (.eq (.v 58) (.v 44)) (.and (.eq (.v 59) (.v 45)) (.and (.eq (.v 60) (.v 46)) (.eq (.v 61) (.v 47))))) (.and (.and (.eq (.v 62) (.v 48)) (.and (.eq (.v 63) (.v 49)) (.and (.eq (.v 64) (.v 50)) (.eq (.v 65) (.v 51))))) (.and (.iff (.nz (.v 66)) (.nz (.v 52))) (.and (.eq (.v 67) (.v 53)) (.eq (.v 68) (.v 54)))))))))
       (.leaf ((.bool (.lit false)), [], []))
       (.call 10 [] 1
       (.leaf ((.bool (.lit true)), [], []))
       )
      )
     )
     )
     )
     )
     )
     )
    )
    )
   )
   )
   )
   (.call 22 [(.v 2), (.v 3), (.v 4), (.v 5), (.v 11), (.v 12), (.v 13), (.v 14), (.v 18), (.v 19), (.v 20), (.v 21)] 12
   (.ite (.and (.not (.eq (.v 34) (.lit 0))) (.not (.eq (.v 34) (.lit 16))))
    (.leaf ((.bool (.lit false)), [], []))
    (.call 900 [(.lit 12), (.mn (.v 0) (.lit 600)), (.v 22)] 2
    (.call 27 [(.v 2), (.v 3), (.v 4), (.v 5), (.v 23), (.v 24), (.v 25), (.v 26), (.v 27), (.v 28), (.v 29), (.v 30), (.v 31), (.v 32), (.v 33), (.add (.v 23) (.v 35))] 12
    (.call 900 [(.lit 5), (.mn (.v 0) (.lit 600)), (.v 36)] 2
    (.call 27 [(.v 2), (.v 3), (.v 4), (.v 5), (.v 37), (.v 38), (.v 39), (.v 40), (.v 41), (.v 42), (.v 43), (.v 44), (.v 45), (.v 46), (.v 47), (.add (.add (.v 23) (.v 35)) (.v 49))] 12
    (.call 27 [(.v 2), (.v 3), (.v 4), (.v 5), (.lit 0), (.lit 0), (.lit 0), (.lit 0), (.lit 0), (.lit 0), (.lit 0), (.lit 0), (.lit 0), (.lit 0), (.lit 0), (.add (.v 23) (.v 35))] 12
    (.ite (.or (.or (.or (.not (.eq (.v 48) (.lit 0))) (.not (.eq (.v 62) (.lit 0)))) (.not (.eq (.v 74) (.lit 0)))) (.not (.and (.and (.eq (.v 63) (.lit 0)) (.and (.eq (.v 64) (.lit 0)) (.and (.eq (.v 65) (.lit 0)) (.eq (.v 66) (.lit 0))))) (.and (.and (.eq (.v 67) (.lit 0)) (.and (.eq (.v 68) (.lit 0)) (.and (.eq (.v 69) (.lit 0)) (.eq (.v 70) (.lit 0))))) (.and (.not (.nz (.v 71))) (.and (.eq (.v 72) (.lit 0)) (.eq (.v 73) (.lit 0))))))))
     (.leaf ((.bool (.lit false)), [], []))
     (.ite (.or (.or (.not (.and (.and (.eq (.v 37) (.v 23)) (.and (.eq (.v 38) (.v 24)) (.and (.eq (.v 39) (.v 25)) (.eq (.v 40) (.v 26))))) (.and (.and (.eq (.v 41) (.v 27)) (.and (.eq (.v 42) (.v 28)) (.and (.eq (.v 43) (.v 29)) (.eq (.v 44) (.v 30))))) (.and (.iff (.nz (.v 45)) (.nz (.v 31))) (.eq (.v 46) (.v 32)))))) (.and (.not (.eq (.v 47) (.v 33))) (.not (.eq (.v 47) (.lit 2))))) (.and (.eq (.v 47) (.lit 2)) (.not (.and (.and (.eq (.v 51) (.v 37)) (.and (.eq (.v 52) (.v 38)) (.and (.eq (.v 53) (.v 39)) (.eq (.v 54) (.v 40))))) (.and (.and (.eq (.v 55) (.v 41)) (.and (.eq (.v 56) (.v 42)) (.and (.eq (.v 57) (.v 43)) (.eq (.v 58) (.v 44))))) (.and (.iff (.nz (.v 59)) (.nz (.v 45))) (.and (.eq (.v 60) (.v 46)) (.eq (.v 61) (.v 47)))))))))
      (.leaf ((.bool (.lit false)), [], []))
      (.call 10 [] 1
      (.leaf ((.bool (.lit true)), [], []))
      )
     )
    )
    )
    )
    )
    )
    )
   )
   )
  )
  )
  )
  (.call 21 [(.v 2), (.v 3), (.v 4), (.v 5), (.v 11), (.v 12), (.v 13), (.v 14)] 12
  (.ite (.and (.not (.eq (.v 27) (.lit 0))) (.not (.eq (.v 27) (.lit 16))))
   (.leaf ((.bool (.lit false)), [], []))
   (.call 900 [(.lit 12), (.mn (.v 0) (.lit 600)), (.v 15)] 2
   (.call 27 [(.v 2), (.v 3), (.v 4), (.v 5), (.v 16), (.v 17), (.v 18), (.v 19), (.v 20), (.v 21), (.v 22), (.v 23), (.v 24), (.v 25), (.v 26), (.add (.v 16) (.v 28))] 12
   (.call 900 [(.lit 5), (.mn (.v 0) (.lit 600)), (.v 29)] 2
   (.call 27 [(.v 2), (.v 3), (.v 4), (.v 5), (.v 30), (.v 31), (.v 32), (.v 33), (.v 34), (.v 35), (.v 36), (.v 37), (.v 38), (.v 39), (.v 40), (.add (.add (.v 16) (.v 28)) (.v 42))] 12
   (.call 27 [(.v 2), (.v 3), (.v 4), (.v 5), (.lit 0), (.lit 0), (.lit 0), (.lit 0), (.lit 0), (.lit 0), (.lit 0), (.lit 0), (.lit 0), (.lit 0), (.lit 0), (.add (.v 16) (.v 28))] 12
   (.ite (.or (.or (.or (.not (.eq (.v 41) (.lit 0))) (.not (.eq (.v 55) (.lit 0)))) (.not (.eq (.v 67) (.lit 0)))) (.not (.and (.and (.eq (.v 56) (.lit 0)) (.and (.eq (.v 57) (.lit 0)) (.and (.eq (.v 58) (.lit 0)) (.eq (.v 59) (.lit 0))))) (.and (.and (.eq (.v 60) (.lit 0)) (.and (.eq (.v 61) (.lit 0)) (.and (.eq (.v 62) (.lit 0)) (.eq (.v 63) (.lit 0))))) (.and (.not (.nz (.v 64))) (.and (.eq (.v 65) (.lit 0)) (.eq (.v 66) (.lit 0))))))))
    (.leaf ((.bool (.lit false)), [], []))
    (.ite (.or (.or (.not (.and (.and (.eq (.v 30) (.v 16)) (.and (.eq (.v 31) (.v 17)) (.and (.eq (.v 32) (.v 18)) (.eq (.v 33) (.v 19))))) (.and (.and (.eq (.v 34) (.v 20)) (.and (.eq (.v 35) (.v 21)) (.and (.eq (.v 36) (.v 22)) (.eq (.v 37) (.v 23))))) (.and (.iff (.nz (.v 38)) (.nz (.v 24))) (.eq (.v 39) (.v 25)))))) (.and (.not (.eq (.v 40) (.v 26))) (.not (.eq (.v 40) (.lit 2))))) (.and (.eq (.v 40) (.lit 2)) (.not (.and (.and (.eq (.v 44) (.v 30)) (.and (.eq (.v 45) (.v 31)) (.and (.eq (.v 46) (.v 32)) (.eq (.v 47) (.v 33))))) (.and (.and (.eq (.v 48) (.v 34)) (.and (.eq (.v 49) (.v 35)) (.and (.eq (.v 50) (.v 36)) (.eq (.v 51) (.v 37))))) (.and (.iff (.nz (.v 52)) (.nz (.v 38))) (.and (.eq (.v 53) (.v 39)) (.eq (.v 54) (.v 40)))))))))
     (.leaf ((.bool (.lit false)), [], []))
     (.call 10 [] 1
     (.leaf ((.bool (.lit true)), [], []))
     )
    )
   )
   )
   )
   )
   )
   )
  )
  )
 )
 )
 )
 (.call 20 [(.v 2), (.v 3), (.v 4), (.v 5)] 12
 (.ite (.and (.not (.eq (.v 20) (.lit 0))) (.not (.eq (.v 20) (.lit 16))))
  (.leaf ((.bool (.lit false)), [], []))
  (.call 900 [(.lit 12), (.mn (.v 0) (.lit 600)), (.v 8)] 2
  (.call 27 [(.v 2), (.v 3), (.v 4), (.v 5), (.v 9), (.v 10), (.v 11), (.v 12), (.v 13), (.v 14), (.v 15), (.v 16), (.v 17), (.v 18), (.v 19), (.add (.v 9) (.v 21))] 12
  (.call 900 [(.lit 5), (.mn (.v 0) (.lit 600)), (.v 22)] 2
  (.call 27 [(.v 2), (.v 3), (.v 4), (.v 5), (.v 23), (.v 24), (.v 25), (.v 26), (.v 27), (.v 28), (.v 29), (.v 30), (.v 31), (.v 32), (.v 33), (.add (.add (.v 9) (.v 21)) (.v 35))] 12
  (.call 27 [(.v 2), (.v 3), (.v 4), (.v 5), (.lit 0), (.lit 0), (.lit 0), (.lit 0), (.lit 0), (.lit 0), (.lit 0), (.lit 0), (.lit 0), (.lit 0), (.lit 0), (.add (.v 9) (.v 21))] 12
  (.ite (.or (.or (.or (.not (.eq (.v 34) (.lit 0))) (.not (.eq (.v 48) (.lit 0)))) (.not (.eq (.v 60) (.lit 0)))) (.not (.and (.and (.eq (.v 49) (.lit 0)) (.and (.eq (.v 50) (.lit 0)) (.and (.eq (.v 51) (.lit 0)) (.eq (.v 52) (.lit 0))))) (.and (.and (.eq (.v 53) (.lit 0)) (.and (.eq (.v 54) (.lit 0)) (.and (.eq (.v 55) (.lit 0)) (.eq (.v 56) (.lit 0))))) (.and (.not (.nz (.v 57))) (.and (.eq (.v 58) (.lit 0)) (.eq (.v 59) (.lit 0))))))))
   (.leaf ((.bool (.lit false)), [], []))
   (.ite (.or (.or (.not (.and (.and (.eq (.v 23) (.v 9)) (.and (.eq (.v 24) (.v 10)) (.and (.eq (.v 25) (.v 11)) (.eq (.v 26) (.v 12))))) (.and (.and (.eq (.v 27) (.v 13)) (.and (.eq (.v 28) (.v 14)) (.and (.eq (.v 29) (.v 15)) (.eq (.v 30) (.v 16))))) (.and (.iff (.nz (.v 31)) (.nz (.v 17))) (.eq (.v 32) (.v 18)))))) (.and (.not (.eq (.v 33) (.v 19))) (.not (.eq (.v 33) (.lit 2))))) (.and (.eq (.v 33) (.lit 2)) (.not (.and (.and (.eq (.v 37) (.v 23)) (.and (.eq (.v 38) (.v 24)) (.and (.eq (.v 39) (.v 25)) (.eq (.v 40) (.v 26))))) (.and (.and (.eq (.v 41) (.v 27)) (.and (.eq (.v 42) (.v 28)) (.and (.eq (.v 43) (.v 29)) (.eq (.v 44) (.v 30))))) (.and (.iff (.nz (.v 45)) (.nz (.v 31))) (.and (.eq (.v 46) (.v 32)) (.eq (.v 47) (.v 33)))))))))
    (.leaf ((.bool (.lit false)), [], []))
    (.call 10 [] 1
    (.leaf ((.bool (.lit true)), [], []))
    )
   )
  )
  )
  )
  )
  )
  )
 )
 )
)
)
)
theorem root_chk : (clL (shsW SS + 2) (ltB ([] : Blks).length) (.sls 0 (.v 0) (.v 1) :: shsS SS 2) && clBs (shsW SS + 2) (ltB ([] : Blks).length) [] && clFx (shsW SS + 2) (rowFx (rngE 2 (ksRg (shsKs SS))))) = true := by kernel_rfl
theorem root_fn : LP.funcs[LG]? = some fn0 := by kernel_rfl
theorem root_body : fn0.body = some (fn0.body.getD .skip) := by kernel_rfl
theorem root_st : ({ t := (.sls 0 (.v 0) (.v 1) :: shsS SS 2) ++ List.replicate (fn0.ntmps - (.sls 0 (.v 0) (.v 1) :: shsS SS 2 : List SV).length) .undef, b := [], fx := rowFx (rngE 2 (ksRg (shsKs SS))), n := shsW SS + 2, wd := [], cs := [] } : St) = st0 := by kernel_rfl
theorem root_tree : tr0 = tree := by kernel_rfl
theorem root_ct : ct0 = .go (fn0.body.getD .skip) 0 [] := rfl
theorem root_at : (at_ LP LC LF (evD LP LC LF LD) LG LK (.go (fn0.body.getD .skip) 0 []) st0).strip = tree := (root_ct ▸ th0).trans root_tree
theorem tree_eq : (evFn Try.prog (rowCtxE (exL en27) [] hints) 60 12 5 (.sls 0 (.v 0) (.v 1) :: shsS SS 2) [] (rowFx (rngE 2 (ksRg (shsKs SS)))) (shsW SS + 2)).strip = tree :=
  evFn_at (P := LP) (C := LC) (F := LF) (d := LD) (f := LG) (fn := fn0) root_chk root_fn root_body root_st root_at
def JJ : Nat → List Int → List Int → Prop := fun _ _ _ => True
theorem okJ_cK {α : Type} {J : Nat → List Int → List Int → Prop} {g : Nat → List Int → List Int} {L : List Int → α → Prop} {ρ : List Int} {k m : Nat} {es : List E} {t : T α} {xs R : List Int} (hk : k < 900) (hx : es.map (den ρ) = xs) (he : g k xs = R) (hm : R.length = m) (h : T.okJ J g L (ρ ++ R) t) : T.okJ J g L ρ (.call k es m t) :=
  okJ_call hk (by rw [hx, he, fit_len hm]; exact h)
theorem okJ_iteK {α : Type} {J : Nat → List Int → List Int → Prop} {g : Nat → List Int → List Int} {L : List Int → α → Prop} {ρ : List Int} {b : B} {t e : T α} {b' : Bool} (hb : denB ρ b = b') (h1 : b' = true → T.okJ J g L ρ t) (h2 : b' = false → T.okJ J g L ρ e) : T.okJ J g L ρ (.ite b t e) :=
  okJ_ite (fun h => h1 (hb ▸ h)) (fun h => h2 (hb ▸ h))
theorem fix_c {l c : Int} {z : List Int} {g : Nat → List Int → List Int} (hg : EnOK g l c z en27) {J : Nat → List Int → List Int → Prop} {ρ : List Int} {es : List E} {u : T Leaf}
    (h : ∀ t x y e p : Int, 1 ≤ e → T.okJ J g LTrue (ρ ++ [t, x, y, e, p]) u) : T.okJ J g LTrue ρ (.call 12 es 5 u) := by
  have hr := rng_of hg.2.2.2.2.2.2.2.2.2.2.2.2.2.2.1 t_fix_chk rfl rfl (es.map (den ρ))
  refine okJ_call (by decide) ?_
  have e : fit 5 (g 12 (es.map (den ρ))) = [(g 12 (es.map (den ρ))).getD 0 0, (g 12 (es.map (den ρ))).getD 1 0, (g 12 (es.map (den ρ))).getD 2 0, (g 12 (es.map (den ρ))).getD 3 0, (g 12 (es.map (den ρ))).getD 4 0] := rfl
  rw [e]
  have r3 := RngOK_get hr 3 1 200 rfl
  rw [show c_fix.key = 12 from rfl] at r3
  exact h _ _ _ _ _ r3.1

set_option maxHeartbeats 4000000 in
theorem plain (l c : Int) (z : List Int) (g : Nat → List Int → List Int) (hg : EnOK g l c z en27) (hr : KsOK (shsKs SS) []) : T.okJ JJ g LTrue [l, c] tree := by
  unfold tree
  refine okJ_cL (by decide) fun r hr_ => ?_
  obtain ⟨r0, r1, r2, r3, rp, rfl⟩ : ∃ r0 r1 r2 r3 rp, r = [r0, r1, r2, r3, rp] := ⟨_, _, _, _, _, hr_⟩
  clear hr_
  refine okJ_src fun d1 p1 hd1 _ => ?_
  refine okJ_ite (fun _ => ?_) fun _ => ?_
  · refine okJ_src fun d2 p2 hd2 _ => ?_
    refine fix_c hg fun f00 f01 f02 f03 fp0 hf0 => ?_
    refine okJ_ite (fun _ => ?_) fun _ => ?_
    · refine okJ_src fun d3 p3 hd3 _ => ?_
      refine fix_c hg fun f10 f11 f12 f13 fp1 hf1 => ?_
      refine okJ_ite (fun _ => ?_) fun _ => ?_
      · refine okJ_src fun d4 p4 hd4 _ => ?_
        refine fix_c hg fun f20 f21 f22 f23 fp2 hf2 => ?_
        refine okJ_ite (fun _ => ?_) fun _ => ?_
        · refine okJ_src fun d5 p5 hd5 _ => ?_
          refine fix_c hg fun f30 f31 f32 f33 fp3 hf3 => ?_
          refine okJ_ite (fun _ => ?_) fun _ => ?_
          · refine okJ_src fun d6 p6 hd6 _ => ?_
            refine fix_c hg fun f40 f41 f42 f43 fp4 hf4 => ?_
            refine okJ_ite (fun _ => ?_) fun _ => ?_
            · refine okJ_src fun d7 p7 hd7 _ => ?_
              refine fix_c hg fun f50 f51 f52 f53 fp5 hf5 => ?_
              obtain ⟨t0, t1, t2, t3, t4, t5, t6, t7, t8, t9, t10, e, ER, tv, he⟩ := run6_ok hg r0 r1 r2 r3 f00 f01 f02 f03 f10 f11 f12 f13 f20 f21 f22 f23 f30 f31 f32 f33 f40 f41 f42 f43 f50 f51 f52 f53 hf0 hf1 hf2 hf3 hf4 hf5
              refine okJ_cK (by decide) (xs := [r0, r1, r2, r3, f00, f01, f02, f03, f10, f11, f12, f13, f20, f21, f22, f23, f30, f31, f32, f33, f40, f41, f42, f43, f50, f51, f52, f53]) (R := [t0, t1, t2, t3, t4, t5, t6, t7, t8, t9, t10, e]) (by kernel_rfl) ER rfl ?_
              refine okJ_iteK (b' := (!(decide (e = 0)) && !(decide (e = 16)))) (by kernel_rfl) (fun h => ?_) fun _ => ?_
              · exfalso
                simp at h
                omega
              refine okJ_src fun d8 p8 hd8 _ => ?_
              have ta := tick_ok hg (r0 := r0) (r1 := r1) (r2 := r2) (r3 := r3) (now := t0 + d8) tv (by omega)
              have ca := stZ_c r2 t0 t8 t10 (t0 + d8)
              have tva := TV_st tv ca.2
              have cb := fun (x : Int) => stZ_2 (r2 := r2) (l0 := t0) (s := t8) (st := t10) (now := t0 + d8) (now' := x)
              obtain ⟨sa, hsa⟩ : ∃ x, x = stZ r2 t0 t8 t10 (t0 + d8) := ⟨_, rfl⟩
              rw [← hsa] at ta ca tva
              rw [← hsa] at cb
              refine okJ_cK (by decide) (xs := [r0, r1, r2, r3, t0, t1, t2, t3, t4, t5, t6, t7, t8, t9, t10, (t0 + d8)]) (R := [t0, t1, t2, t3, t4, t5, t6, t7, t8, t9, sa, 0]) (by kernel_rfl) ta rfl ?_
              refine okJ_src fun d9 p9 hd9 _ => ?_
              have tb := tick_ok hg (r0 := r0) (r1 := r1) (r2 := r2) (r3 := r3) (now := (t0 + d8 + d9)) tva (by omega)
              have cb := cb (t0 + d8 + d9) (by omega)
              obtain ⟨sb, hsb⟩ : ∃ x, x = stZ r2 t0 t8 sa (t0 + d8 + d9) := ⟨_, rfl⟩
              rw [← hsb] at tb cb
              refine okJ_cK (by decide) (xs := [r0, r1, r2, r3, t0, t1, t2, t3, t4, t5, t6, t7, t8, t9, sa, ((t0 + d8) + d9)]) (R := [t0, t1, t2, t3, t4, t5, t6, t7, t8, t9, sb, 0]) (by kernel_rfl) tb rfl ?_
              have tn : g 27 [r0, r1, r2, r3, 0, 0, 0, 0, 0, 0, 0, 0, 0, 0, 0, (t0 + d8)] = [0, 0, 0, 0, 0, 0, 0, 0, 0, 0, 0, 0] := by
                rw [tick_eq hg]
                simp
              refine okJ_cK (by decide) (xs := [r0, r1, r2, r3, 0, 0, 0, 0, 0, 0, 0, 0, 0, 0, 0, (t0 + d8)]) (R := [0, 0, 0, 0, 0, 0, 0, 0, 0, 0, 0, 0]) (by kernel_rfl) tn rfl ?_
              refine okJ_iteK (b' := (((!(decide (0 = 0)) || !(decide (0 = 0))) || !(decide (0 = 0))) || !(((decide (0 = 0) && (decide (0 = 0) && (decide (0 = 0) && decide (0 = 0)))) && ((decide (0 = 0) && (decide (0 = 0) && (decide (0 = 0) && decide (0 = 0)))) && (!(decide (0 ≠ 0)) && (decide (0 = 0) && decide (0 = 0)))))))) (by kernel_rfl) (fun h => ?_) fun _ => ?_
              · exfalso
                simp at h
              refine okJ_iteK (b' := ((!(((decide (t0 = t0) && (decide (t1 = t1) && (decide (t2 = t2) && decide (t3 = t3)))) && ((decide (t4 = t4) && (decide (t5 = t5) && (decide (t6 = t6) && decide (t7 = t7)))) && (((decide (t8 ≠ 0)) == (decide (t8 ≠ 0))) && decide (t9 = t9))))) || (!(decide (sa = t10)) && !(decide (sa = 2)))) || (decide (sa = 2) && !(((decide (t0 = t0) && (decide (t1 = t1) && (decide (t2 = t2) && decide (t3 = t3)))) && ((decide (t4 = t4) && (decide (t5 = t5) && (decide (t6 = t6) && decide (t7 = t7)))) && (((decide (t8 ≠ 0)) == (decide (t8 ≠ 0))) && (decide (t9 = t9) && decide (sb = sa))))))))) (by kernel_rfl) (fun h => ?_) fun _ => ?_
              · exfalso
                simp at h
                omega
              exact okJ_c1 (by decide) fun _ _ => rfl
            · obtain ⟨t0, t1, t2, t3, t4, t5, t6, t7, t8, t9, t10, e, ER, tv, he⟩ := run5_ok hg r0 r1 r2 r3 f00 f01 f02 f03 f10 f11 f12 f13 f20 f21 f22 f23 f30 f31 f32 f33 f40 f41 f42 f43 hf0 hf1 hf2 hf3 hf4
              refine okJ_cK (by decide) (xs := [r0, r1, r2, r3, f00, f01, f02, f03, f10, f11, f12, f13, f20, f21, f22, f23, f30, f31, f32, f33, f40, f41, f42, f43]) (R := [t0, t1, t2, t3, t4, t5, t6, t7, t8, t9, t10, e]) (by kernel_rfl) ER rfl ?_
              refine okJ_iteK (b' := (!(decide (e = 0)) && !(decide (e = 16)))) (by kernel_rfl) (fun h => ?_) fun _ => ?_
              · exfalso
                simp at h
                omega
              refine okJ_src fun d10 p10 hd10 _ => ?_
              have ta := tick_ok hg (r0 := r0) (r1 := r1) (r2 := r2) (r3 := r3) (now := t0 + d10) tv (by omega)
              have ca := stZ_c r2 t0 t8 t10 (t0 + d10)
              have tva := TV_st tv ca.2
              have cb := fun (x : Int) => stZ_2 (r2 := r2) (l0 := t0) (s := t8) (st := t10) (now := t0 + d10) (now' := x)
              obtain ⟨sa, hsa⟩ : ∃ x, x = stZ r2 t0 t8 t10 (t0 + d10) := ⟨_, rfl⟩
              rw [← hsa] at ta ca tva
              rw [← hsa] at cb
              refine okJ_cK (by decide) (xs := [r0, r1, r2, r3, t0, t1, t2, t3, t4, t5, t6, t7, t8, t9, t10, (t0 + d10)]) (R := [t0, t1, t2, t3, t4, t5, t6, t7, t8, t9, sa, 0]) (by kernel_rfl) ta rfl ?_
              refine okJ_src fun d11 p11 hd11 _ => ?_
              have tb := tick_ok hg (r0 := r0) (r1 := r1) (r2 := r2) (r3 := r3) (now := (t0 + d10 + d11)) tva (by omega)
              have cb := cb (t0 + d10 + d11) (by omega)
              obtain ⟨sb, hsb⟩ : ∃ x, x = stZ r2 t0 t8 sa (t0 + d10 + d11) := ⟨_, rfl⟩
              rw [← hsb] at tb cb
              refine okJ_cK (by decide) (xs := [r0, r1, r2, r3, t0, t1, t2, t3, t4, t5, t6, t7, t8, t9, sa, ((t0 + d10) + d11)]) (R := [t0, t1, t2, t3, t4, t5, t6, t7, t8, t9, sb, 0]) (by kernel_rfl) tb rfl ?_
              have tn : g 27 [r0, r1, r2, r3, 0, 0, 0, 0, 0, 0, 0, 0, 0, 0, 0, (t0 + d10)] = [0, 0, 0, 0, 0, 0, 0, 0, 0, 0, 0, 0] := by
                rw [tick_eq hg]
                simp
              refine okJ_cK (by decide) (xs := [r0, r1, r2, r3, 0, 0, 0, 0, 0, 0, 0, 0, 0, 0, 0, (t0 + d10)]) (R := [0, 0, 0, 0, 0, 0, 0, 0, 0, 0, 0, 0]) (by kernel_rfl) tn rfl ?_
              refine okJ_iteK (b' := (((!(decide (0 = 0)) || !(decide (0 = 0))) || !(decide (0 = 0))) || !(((decide (0 = 0) && (decide (0 = 0) && (decide (0 = 0) && decide (0 = 0)))) && ((decide (0 = 0) && (decide (0 = 0) && (decide (0 = 0) && decide (0 = 0)))) && (!(decide (0 ≠ 0)) && (decide (0 = 0) && decide (0 = 0)))))))) (by kernel_rfl) (fun h => ?_) fun _ => ?_
              · exfalso
                simp at h
              refine okJ_iteK (b' := ((!(((decide (t0 = t0) && (decide (t1 = t1) && (decide (t2 = t2) && decide (t3 = t3)))) && ((decide (t4 = t4) && (decide (t5 = t5) && (decide (t6 = t6) && decide (t7 = t7)))) && (((decide (t8 ≠ 0)) == (decide (t8 ≠ 0))) && decide (t9 = t9))))) || (!(decide (sa = t10)) && !(decide (sa = 2)))) || (decide (sa = 2) && !(((decide (t0 = t0) && (decide (t1 = t1) && (decide (t2 = t2) && decide (t3 = t3)))) && ((decide (t4 = t4) && (decide (t5 = t5) && (decide (t6 = t6) && decide (t7 = t7)))) && (((decide (t8 ≠ 0)) == (decide (t8 ≠ 0))) && (decide (t9 = t9) && decide (sb = sa))))))))) (by kernel_rfl) (fun h => ?_) fun _ => ?_
              · exfalso
                simp at h
                omega
              exact okJ_c1 (by decide) fun _ _ => rfl
          · obtain ⟨t0, t1, t2, t3, t4, t5, t6, t7, t8, t9, t10, e, ER, tv, he⟩ := run4_ok hg r0 r1 r2 r3 f00 f01 f02 f03 f10 f11 f12 f13 f20 f21 f22 f23 f30 f31 f32 f33 hf0 hf1 hf2 hf3
            refine okJ_cK (by decide) (xs := [r0, r1, r2, r3, f00, f01, f02, f03, f10, f11, f12, f13, f20, f21, f22, f23, f30, f31, f32, f33]) (R := [t0, t1, t2, t3, t4, t5, t6, t7, t8, t9, t10, e]) (by kernel_rfl) ER rfl ?_
            refine okJ_iteK (b' := (!(decide (e = 0)) && !(decide (e = 16)))) (by kernel_rfl) (fun h => ?_) fun _ => ?_
            · exfalso
              simp at h
              omega
            refine okJ_src fun d12 p12 hd12 _ => ?_
            have ta := tick_ok hg (r0 := r0) (r1 := r1) (r2 := r2) (r3 := r3) (now := t0 + d12) tv (by omega)
            have ca := stZ_c r2 t0 t8 t10 (t0 + d12)
            have tva := TV_st tv ca.2
            have cb := fun (x : Int) => stZ_2 (r2 := r2) (l0 := t0) (s := t8) (st := t10) (now := t0 + d12) (now' := x)
            obtain ⟨sa, hsa⟩ : ∃ x, x = stZ r2 t0 t8 t10 (t0 + d12) := ⟨_, rfl⟩
            rw [← hsa] at ta ca tva
            rw [← hsa] at cb
            refine okJ_cK (by decide) (xs := [r0, r1, r2, r3, t0, t1, t2, t3, t4, t5, t6, t7, t8, t9, t10, (t0 + d12)]) (R := [t0, t1, t2, t3, t4, t5, t6, t7, t8, t9, sa, 0]) (by kernel_rfl) ta rfl ?_
            refine okJ_src fun d13 p13 hd13 _ => ?_
            have tb := tick_ok hg (r0 := r0) (r1 := r1) (r2 := r2) (r3 := r3) (now := (t0 + d12 + d13)) tva (by omega)
            have cb := cb (t0 + d12 + d13) (by omega)
            obtain ⟨sb, hsb⟩ : ∃ x, x = stZ r2 t0 t8 sa (t0 + d12 + d13) := ⟨_, rfl⟩
            rw [← hsb] at tb cb
            refine okJ_cK (by decide) (xs := [r0, r1, r2, r3, t0, t1, t2, t3, t4, t5, t6, t7, t8, t9, sa, ((t0 + d12) + d13)]) (R := [t0, t1, t2, t3, t4, t5, t6, t7, t8, t9, sb, 0]) (by kernel_rfl) tb rfl ?_
            have tn : g 27 [r0, r1, r2, r3, 0, 0, 0, 0, 0, 0, 0, 0, 0, 0, 0, (t0 + d12)] = [0, 0, 0, 0, 0, 0, 0, 0, 0, 0, 0, 0] := by
              rw [tick_eq hg]
              simp
            refine okJ_cK (by decide) (xs := [r0, r1, r2, r3, 0, 0, 0, 0, 0, 0, 0, 0, 0, 0, 0, (t0 + d12)]) (R := [0, 0, 0, 0, 0, 0, 0, 0, 0, 0, 0, 0]) (by kernel_rfl) tn rfl ?_
            refine okJ_iteK (b' := (((!(decide (0 = 0)) || !(decide (0 = 0))) || !(decide (0 = 0))) || !(((decide (0 = 0) && (decide (0 = 0) && (decide (0 = 0) && decide (0 = 0)))) && ((decide (0 = 0) && (decide (0 = 0) && (decide (0 = 0) && decide (0 = 0)))) && (!(decide (0 ≠ 0)) && (decide (0 = 0) && decide (0 = 0)))))))) (by kernel_rfl) (fun h => ?_) fun _ => ?_
            · exfalso
              simp at h
            refine okJ_iteK (b' := ((!(((decide (t0 = t0) && (decide (t1 = t1) && (decide (t2 = t2) && decide (t3 = t3)))) && ((decide (t4 = t4) && (decide (t5 = t5) && (decide (t6 = t6) && decide (t7 = t7)))) && (((decide (t8 ≠ 0)) == (decide (t8 ≠ 0))) && decide (t9 = t9))))) || (!(decide (sa = t10)) && !(decide (sa = 2)))) || (decide (sa = 2) && !(((decide (t0 = t0) && (decide (t1 = t1) && (decide (t2 = t2) && decide (t3 = t3)))) && ((decide (t4 = t4) && (decide (t5 = t5) && (decide (t6 = t6) && decide (t7 = t7)))) && (((decide (t8 ≠ 0)) == (decide (t8 ≠ 0))) && (decide (t9 = t9) && decide (sb = sa))))))))) (by kernel_rfl) (fun h => ?_) fun _ => ?_
            · exfalso
              simp at h
              omega
            exact okJ_c1 (by decide) fun _ _ => rfl
        · obtain ⟨t0, t1, t2, t3, t4, t5, t6, t7, t8, t9, t10, e, ER, tv, he⟩ := run3_ok hg r0 r1 r2 r3 f00 f01 f02 f03 f10 f11 f12 f13 f20 f21 f22 f23 hf0 hf1 hf2
          refine okJ_cK (by decide) (xs := [r0, r1, r2, r3, f00, f01, f02, f03, f10, f11, f12, f13, f20, f21, f22, f23]) (R := [t0, t1, t2, t3, t4, t5, t6, t7, t8, t9, t10, e]) (by kernel_rfl) ER rfl ?_
          refine okJ_iteK (b' := (!(decide (e = 0)) && !(decide (e = 16)))) (by kernel_rfl) (fun h => ?_) fun _ => ?_
          · exfalso
            simp at h
            omega
          refine okJ_src fun d14 p14 hd14 _ => ?_
          have ta := tick_ok hg (r0 := r0) (r1 := r1) (r2 := r2) (r3 := r3) (now := t0 + d14) tv (by omega)
          have ca := stZ_c r2 t0 t8 t10 (t0 + d14)
          have tva := TV_st tv ca.2
          have cb := fun (x : Int) => stZ_2 (r2 := r2) (l0 := t0) (s := t8) (st := t10) (now := t0 + d14) (now' := x)
          obtain ⟨sa, hsa⟩ : ∃ x, x = stZ r2 t0 t8 t10 (t0 + d14) := ⟨_, rfl⟩
          rw [← hsa] at ta ca tva
          rw [← hsa] at cb
          refine okJ_cK (by decide) (xs := [r0, r1, r2, r3, t0, t1, t2, t3, t4, t5, t6, t7, t8, t9, t10, (t0 + d14)]) (R := [t0, t1, t2, t3, t4, t5, t6, t7, t8, t9, sa, 0]) (by kernel_rfl) ta rfl ?_
          refine okJ_src fun d15 p15 hd15 _ => ?_
          have tb := tick_ok hg (r0 := r0) (r1 := r1) (r2 := r2) (r3 := r3) (now := (t0 + d14 + d15)) tva (by omega)
          have cb := cb (t0 + d14 + d15) (by omega)
          obtain ⟨sb, hsb⟩ : ∃ x, x = stZ r2 t0 t8 sa (t0 + d14 + d15) := ⟨_, rfl⟩
          rw [← hsb] at tb cb
          refine okJ_cK (by decide) (xs := [r0, r1, r2, r3, t0, t1, t2, t3, t4, t5, t6, t7, t8, t9, sa, ((t0 + d14) + d15)]) (R := [t0, t1, t2, t3, t4, t5, t6, t7, t8, t9, sb, 0]) (by kernel_rfl) tb rfl ?_
          have tn : g 27 [r0, r1, r2, r3, 0, 0, 0, 0, 0, 0, 0, 0, 0, 0, 0, (t0 + d14)] = [0, 0, 0, 0, 0, 0, 0, 0, 0, 0, 0, 0] := by
            rw [tick_eq hg]
            simp
          refine okJ_cK (by decide) (xs := [r0, r1, r2, r3, 0, 0, 0, 0, 0, 0, 0, 0, 0, 0, 0, (t0 + d14)]) (R := [0, 0, 0, 0, 0, 0, 0, 0, 0, 0, 0, 0]) (by kernel_rfl) tn rfl ?_
          refine okJ_iteK (b' := (((!(decide (0 = 0)) || !(decide (0 = 0))) || !(decide (0 = 0))) || !(((decide (0 = 0) && (decide (0 = 0) && (decide (0 = 0) && decide (0 = 0)))) && ((decide (0 = 0) && (decide (0 = 0) && (decide (0 = 0) && decide (0 = 0)))) && (!(decide (0 ≠ 0)) && (decide (0 = 0) && decide (0 = 0)))))))) (by kernel_rfl) (fun h => ?_) fun _ => ?_
          · exfalso
            simp at h
          refine okJ_iteK (b' := ((!(((decide (t0 = t0) && (decide (t1 = t1) && (decide (t2 = t2) && decide (t3 = t3)))) && ((decide (t4 = t4) && (decide (t5 = t5) && (decide (t6 = t6) && decide (t7 = t7)))) && (((decide (t8 ≠ 0)) == (decide (t8 ≠ 0))) && decide (t9 = t9))))) || (!(decide (sa = t10)) && !(decide (sa = 2)))) || (decide (sa = 2) && !(((decide (t0 = t0) && (decide (t1 = t1) && (decide (t2 = t2) && decide (t3 = t3)))) && ((decide (t4 = t4) && (decide (t5 = t5) && (decide (t6 = t6) && decide (t7 = t7)))) && (((decide (t8 ≠ 0)) == (decide (t8 ≠ 0))) && (decide (t9 = t9) && decide (sb = sa))))))))) (by kernel_rfl) (fun h => ?_) fun _ => ?_
          · exfalso
            simp at h
            omega
          exact okJ_c1 (by decide) fun _ _ => rfl
      · obtain ⟨t0, t1, t2, t3, t4, t5, t6, t7, t8, t9, t10, e, ER, tv, he⟩ := run2_ok hg r0 r1 r2 r3 f00 f01 f02 f03 f10 f11 f12 f13 hf0 hf1
        refine okJ_cK (by decide) (xs := [r0, r1, r2, r3, f00, f01, f02, f03, f10, f11, f12, f13]) (R := [t0, t1, t2, t3, t4, t5, t6, t7, t8, t9, t10, e]) (by kernel_rfl) ER rfl ?_
        refine okJ_iteK (b' := (!(decide (e = 0)) && !(decide (e = 16)))) (by kernel_rfl) (fun h => ?_) fun _ => ?_
        · exfalso
          simp at h
          omega
        refine okJ_src fun d16 p16 hd16 _ => ?_
        have ta := tick_ok hg (r0 := r0) (r1 := r1) (r2 := r2) (r3 := r3) (now := t0 + d16) tv (by omega)
        have ca := stZ_c r2 t0 t8 t10 (t0 + d16)
        have tva := TV_st tv ca.2
        have cb := fun (x : Int) => stZ_2 (r2 := r2) (l0 := t0) (s := t8) (st := t10) (now := t0 + d16) (now' := x)
        obtain ⟨sa, hsa⟩ : ∃ x, x = stZ r2 t0 t8 t10 (t0 + d16) := ⟨_, rfl⟩
        rw [← hsa] at ta ca tva
        rw [← hsa] at cb
        refine okJ_cK (by decide) (xs := [r0, r1, r2, r3, t0, t1, t2, t3, t4, t5, t6, t7, t8, t9, t10, (t0 + d16)]) (R := [t0, t1, t2, t3, t4, t5, t6, t7, t8, t9, sa, 0]) (by kernel_rfl) ta rfl ?_
        refine okJ_src fun d17 p17 hd17 _ => ?_
        have tb := tick_ok hg (r0 := r0) (r1 := r1) (r2 := r2) (r3 := r3) (now := (t0 + d16 + d17)) tva (by omega)
        have cb := cb (t0 + d16 + d17) (by omega)
        obtain ⟨sb, hsb⟩ : ∃ x, x = stZ r2 t0 t8 sa (t0 + d16 + d17) := ⟨_, rfl⟩
        rw [← hsb] at tb cb
        refine okJ_cK (by decide) (xs := [r0, r1, r2, r3, t0, t1, t2, t3, t4, t5, t6, t7, t8, t9, sa, ((t0 + d16) + d17)]) (R := [t0, t1, t2, t3, t4, t5, t6, t7, t8, t9, sb, 0]) (by kernel_rfl) tb rfl ?_
        have tn : g 27 [r0, r1, r2, r3, 0, 0, 0, 0, 0, 0, 0, 0, 0, 0, 0, (t0 + d16)] = [0, 0, 0, 0, 0, 0, 0, 0, 0, 0, 0, 0] := by
          rw [tick_eq hg]
          simp
        refine okJ_cK (by decide) (xs := [r0, r1, r2, r3, 0, 0, 0, 0, 0, 0, 0, 0, 0, 0, 0, (t0 + d16)]) (R := [0, 0, 0, 0, 0, 0, 0, 0, 0, 0, 0, 0]) (by kernel_rfl) tn rfl ?_
        refine okJ_iteK (b' := (((!(decide (0 = 0)) || !(decide (0 = 0))) || !(decide (0 = 0))) || !(((decide (0 = 0) && (decide (0 = 0) && (decide (0 = 0) && decide (0 = 0)))) && ((decide (0 = 0) && (decide (0 = 0) && (decide (0 = 0) && decide (0 = 0)))) && (!(decide (0 ≠ 0)) && (decide (0 = 0) && decide (0 = 0)))))))) (by kernel_rfl) (fun h => ?_) fun _ => ?_
        · exfalso
          simp at h
        refine okJ_iteK (b' := ((!(((decide (t0 = t0) && (decide (t1 = t1) && (decide (t2 = t2) && decide (t3 = t3)))) && ((decide (t4 = t4) && (decide (t5 = t5) && (decide (t6 = t6) && decide (t7 = t7)))) && (((decide (t8 ≠ 0)) == (decide (t8 ≠ 0))) && decide (t9 = t9))))) || (!(decide (sa = t10)) && !(decide (sa = 2)))) || (decide (sa = 2) && !(((decide (t0 = t0) && (decide (t1 = t1) && (decide (t2 = t2) && decide (t3 = t3)))) && ((decide (t4 = t4) && (decide (t5 = t5) && (decide (t6 = t6) && decide (t7 = t7)))) && (((decide (t8 ≠ 0)) == (decide (t8 ≠ 0))) && (decide (t9 = t9) && decide (sb = sa))))))))) (by kernel_rfl) (fun h => ?_) fun _ => ?_
        · exfalso
          simp at h
          omega
        exact okJ_c1 (by decide) fun _ _ => rfl
    · obtain ⟨t0, t1, t2, t3, t4, t5, t6, t7, t8, t9, t10, e, ER, tv, he⟩ := run1_ok hg r0 r1 r2 r3 f00 f01 f02 f03 hf0
      refine okJ_cK (by decide) (xs := [r0, r1, r2, r3, f00, f01, f02, f03]) (R := [t0, t1, t2, t3, t4, t5, t6, t7, t8, t9, t10, e]) (by kernel_rfl) ER rfl ?_
      refine okJ_iteK (b' := (!(decide (e = 0)) && !(decide (e = 16)))) (by kernel_rfl) (fun h => ?_) fun _ => ?_
      · exfalso
        simp at h
        omega
      refine okJ_src fun d18 p18 hd18 _ => ?_
      have ta := tick_ok hg (r0 := r0) (r1 := r1) (r2 := r2) (r3 := r3) (now := t0 + d18) tv (by omega)
      have ca := stZ_c r2 t0 t8 t10 (t0 + d18)
      have tva := TV_st tv ca.2
      have cb := fun (x : Int) => stZ_2 (r2 := r2) (l0 := t0) (s := t8) (st := t10) (now := t0 + d18) (now' := x)
      obtain ⟨sa, hsa⟩ : ∃ x, x = stZ r2 t0 t8 t10 (t0 + d18) := ⟨_, rfl⟩
      rw [← hsa] at ta ca tva
      rw [← hsa] at cb
      refine okJ_cK (by decide) (xs := [r0, r1, r2, r3, t0, t1, t2, t3, t4, t5, t6, t7, t8, t9, t10, (t0 + d18)]) (R := [t0, t1, t2, t3, t4, t5, t6, t7, t8, t9, sa, 0]) (by kernel_rfl) ta rfl ?_
      refine okJ_src fun d19 p19 hd19 _ => ?_
      have tb := tick_ok hg (r0 := r0) (r1 := r1) (r2 := r2) (r3 := r3) (now := (t0 + d18 + d19)) tva (by omega)
      have cb := cb (t0 + d18 + d19) (by omega)
      obtain ⟨sb, hsb⟩ : ∃ x, x = stZ r2 t0 t8 sa (t0 + d18 + d19) := ⟨_, rfl⟩
      rw [← hsb] at tb cb
      refine okJ_cK (by decide) (xs := [r0, r1, r2, r3, t0, t1, t2, t3, t4, t5, t6, t7, t8, t9, sa, ((t0 + d18) + d19)]) (R := [t0, t1, t2, t3, t4, t5, t6, t7, t8, t9, sb, 0]) (by kernel_rfl) tb rfl ?_
      have tn : g 27 [r0, r1, r2, r3, 0, 0, 0, 0, 0, 0, 0, 0, 0, 0, 0, (t0 + d18)] = [0, 0, 0, 0, 0, 0, 0, 0, 0, 0, 0, 0] := by
        rw [tick_eq hg]
        simp
      refine okJ_cK (by decide) (xs := [r0, r1, r2, r3, 0, 0, 0, 0, 0, 0, 0, 0, 0, 0, 0, (t0 + d18)]) (R := [0, 0, 0, 0, 0, 0, 0, 0, 0, 0, 0, 0]) (by kernel_rfl) tn rfl ?_
      refine okJ_iteK (b' := (((!(decide (0 = 0)) || !(decide (0 = 0))) || !(decide (0 = 0))) || !(((decide (0 = 0) && (decide (0 = 0) && (decide (0 = 0) && decide (0 = 0)))) && ((decide (0 = 0) && (decide (0 = 0) && (decide (0 = 0) && decide (0 = 0)))) && (!(decide (0 ≠ 0)) && (decide (0 = 0) && decide (0 = 0)))))))) (by kernel_rfl) (fun h => ?_) fun _ => ?_
      · exfalso
        simp at h
      refine okJ_iteK (b' := ((!(((decide (t0 = t0) && (decide (t1 = t1) && (decide (t2 = t2) && decide (t3 = t3)))) && ((decide (t4 = t4) && (decide (t5 = t5) && (decide (t6 = t6) && decide (t7 = t7)))) && (((decide (t8 ≠ 0)) == (decide (t8 ≠ 0))) && decide (t9 = t9))))) || (!(decide (sa = t10)) && !(decide (sa = 2)))) || (decide (sa = 2) && !(((decide (t0 = t0) && (decide (t1 = t1) && (decide (t2 = t2) && decide (t3 = t3)))) && ((decide (t4 = t4) && (decide (t5 = t5) && (decide (t6 = t6) && decide (t7 = t7)))) && (((decide (t8 ≠ 0)) == (decide (t8 ≠ 0))) && (decide (t9 = t9) && decide (sb = sa))))))))) (by kernel_rfl) (fun h => ?_) fun _ => ?_
      · exfalso
        simp at h
        omega
      exact okJ_c1 (by decide) fun _ _ => rfl
  · obtain ⟨t0, t1, t2, t3, t4, t5, t6, t7, t8, t9, t10, e, ER, tv, he⟩ := run0_ok hg r0 r1 r2 r3  
    refine okJ_cK (by decide) (xs := [r0, r1, r2, r3]) (R := [t0, t1, t2, t3, t4, t5, t6, t7, t8, t9, t10, e]) (by kernel_rfl) ER rfl ?_
    refine okJ_iteK (b' := (!(decide (e = 0)) && !(decide (e = 16)))) (by kernel_rfl) (fun h => ?_) fun _ => ?_
    · exfalso
      simp at h
      omega
    refine okJ_src fun d20 p20 hd20 _ => ?_
    have ta := tick_ok hg (r0 := r0) (r1 := r1) (r2 := r2) (r3 := r3) (now := t0 + d20) tv (by omega)
    have ca := stZ_c r2 t0 t8 t10 (t0 + d20)
    have tva := TV_st tv ca.2
    have cb := fun (x : Int) => stZ_2 (r2 := r2) (l0 := t0) (s := t8) (st := t10) (now := t0 + d20) (now' := x)
    obtain ⟨sa, hsa⟩ : ∃ x, x = stZ r2 t0 t8 t10 (t0 + d20) := ⟨_, rfl⟩
    rw [← hsa] at ta ca tva
    rw [← hsa] at cb
    refine okJ_cK (by decide) (xs := [r0, r1, r2, r3, t0, t1, t2, t3, t4, t5, t6, t7, t8, t9, t10, (t0 + d20)]) (R := [t0, t1, t2, t3, t4, t5, t6, t7, t8, t9, sa, 0]) (by kernel_rfl) ta rfl ?_
    refine okJ_src fun d21 p21 hd21 _ => ?_
    have tb := tick_ok hg (r0 := r0) (r1 := r1) (r2 := r2) (r3 := r3) (now := (t0 + d20 + d21)) tva (by omega)
    have cb := cb (t0 + d20 + d21) (by omega)
    obtain ⟨sb, hsb⟩ : ∃ x, x = stZ r2 t0 t8 sa (t0 + d20 + d21) := ⟨_, rfl⟩
    rw [← hsb] at tb cb
    refine okJ_cK (by decide) (xs := [r0, r1, r2, r3, t0, t1, t2, t3, t4, t5, t6, t7, t8, t9, sa, ((t0 + d20) + d21)]) (R := [t0, t1, t2, t3, t4, t5, t6, t7, t8, t9, sb, 0]) (by kernel_rfl) tb rfl ?_
    have tn : g 27 [r0, r1, r2, r3, 0, 0, 0, 0, 0, 0, 0, 0, 0, 0, 0, (t0 + d20)] = [0, 0, 0, 0, 0, 0, 0, 0, 0, 0, 0, 0] := by
      rw [tick_eq hg]
      simp
    refine okJ_cK (by decide) (xs := [r0, r1, r2, r3, 0, 0, 0, 0, 0, 0, 0, 0, 0, 0, 0, (t0 + d20)]) (R := [0, 0, 0, 0, 0, 0, 0, 0, 0, 0, 0, 0]) (by kernel_rfl) tn rfl ?_
    refine okJ_iteK (b' := (((!(decide (0 = 0)) || !(decide (0 = 0))) || !(decide (0 = 0))) || !(((decide (0 = 0) && (decide (0 = 0) && (decide (0 = 0) && decide (0 = 0)))) && ((decide (0 = 0) && (decide (0 = 0) && (decide (0 = 0) && decide (0 = 0)))) && (!(decide (0 ≠ 0)) && (decide (0 = 0) && decide (0 = 0)))))))) (by kernel_rfl) (fun h => ?_) fun _ => ?_
    · exfalso
      simp at h
    refine okJ_iteK (b' := ((!(((decide (t0 = t0) && (decide (t1 = t1) && (decide (t2 = t2) && decide (t3 = t3)))) && ((decide (t4 = t4) && (decide (t5 = t5) && (decide (t6 = t6) && decide (t7 = t7)))) && (((decide (t8 ≠ 0)) == (decide (t8 ≠ 0))) && decide (t9 = t9))))) || (!(decide (sa = t10)) && !(decide (sa = 2)))) || (decide (sa = 2) && !(((decide (t0 = t0) && (decide (t1 = t1) && (decide (t2 = t2) && decide (t3 = t3)))) && ((decide (t4 = t4) && (decide (t5 = t5) && (decide (t6 = t6) && decide (t7 = t7)))) && (((decide (t8 ≠ 0)) == (decide (t8 ≠ 0))) && (decide (t9 = t9) && decide (sb = sa))))))))) (by kernel_rfl) (fun h => ?_) fun _ => ?_
    · exfalso
      simp at h
      omega
    exact okJ_c1 (by decide) fun _ _ => rfl
theorem walk (a0 : Option Addr) (len0 cap0 : Nat) (z0 : List Int) (w : World) (w0 : IsRow .i64 w a0 len0 cap0 z0) (r : List Int) (hr : KsOK (shsKs SS) r) :
    Calls Try.prog 5 (.slice a0 len0 cap0 :: shsV SS r).toArray w fun e w' => e = .returned (.bool true) ∧ Below w.heap.size w w' := by
  match r, hr.length, hr with
  | [], _, hr => exact row_lawX w0 en27_con en27_kl tree_eq (fun g hg => plain _ _ z0 g hg hr) hr
end Go.Proofs.Ytejklpbiieofoaa.monitorTicks
