/- 'dynpos/dynposlaw22.WeatherCalm': the tree of its walk, and that each of its leaves is true. -/
import Derived.Test.YtapdjkiekjdgdaaWL
set_option linter.unusedSimpArgs false
set_option linter.unusedVariables false
set_option maxRecDepth 100000
namespace Go.Proofs.Ytapdjkiekjdgdaa.weatherCalm
open Go.RowKit Ev
def SS : List Sh := []
def hints : FuncId → Nat → Option Hint := fun _ _ => none
def tree1 : T Leaf :=
 (.call 19 [(.sw (.v 119) 0 (.lit 1000) (.sw (.v 119) 1 (.lit 1) (.sw (.v 119) 2 (.lit 30) (.sw (.v 119) 3 (.lit 5000) (.lit 1000000))))), (.sw (.v 121) 0 (.lit 100000) (.sw (.v 121) 1 (.lit 1) (.sw (.v 121) 2 (.lit 500) (.lit 1073741824)))), (.mn (.sw (.v 123) 0 (.lit 0) (.sw (.v 123) 1 (.lit 1) (.sw (.v 123) 2 (.quo (.sw (.v 119) 0 (.lit 1000) (.sw (.v 119) 1 (.lit 1) (.sw (.v 119) 2 (.lit 30) (.sw (.v 119) 3 (.lit 5000) (.lit 1000000))))) (.lit 10)) (.sw (.v 119) 0 (.lit 1000) (.sw (.v 119) 1 (.lit 1) (.sw (.v 119) 2 (.lit 30) (.sw (.v 119) 3 (.lit 5000) (.lit 1000000)))))))) (.sw (.v 119) 0 (.lit 1000) (.sw (.v 119) 1 (.lit 1) (.sw (.v 119) 2 (.lit 30) (.sw (.v 119) 3 (.lit 5000) (.lit 1000000)))))), (.mn (.sw (.v 125) 0 (.lit 0) (.sw (.v 125) 1 (.lit 1) (.sw (.v 125) 2 (.quo (.sw (.v 121) 0 (.lit 100000) (.sw (.v 121) 1 (.lit 1) (.sw (.v 121) 2 (.lit 500) (.lit 1073741824)))) (.lit 10)) (.sw (.v 121) 0 (.lit 100000) (.sw (.v 121) 1 (.lit 1) (.sw (.v 121) 2 (.lit 500) (.lit 1073741824))))))) (.sw (.v 121) 0 (.lit 100000) (.sw (.v 121) 1 (.lit 1) (.sw (.v 121) 2 (.lit 500) (.lit 1073741824))))), (.sw (.v 127) 0 (.lit 0) (.sw (.v 127) 1 (.lit 1) (.sw (.v 127) 2 (.lit 299) (.sw (.v 127) 3 (.lit 300) (.sw (.v 127) 4 (.lit 450) (.sw (.v 127) 5 (.lit 900) (.sw (.v 127) 6 (.lit 1800) (.sw (.v 127) 7 (.lit 2701) (.lit 3599))))))))), (.lit 0), (.sw (.v 131) 0 (.lit 0) (.sw (.v 131) 1 (.lit 1) (.sw (.v 131) 2 (.lit 299) (.sw (.v 131) 3 (.lit 300) (.sw (.v 131) 4 (.lit 450) (.sw (.v 131) 5 (.lit 900) (.sw (.v 131) 6 (.lit 1800) (.sw (.v 131) 7 (.lit 2701) (.lit 3599))))))))), (.lit 0), (.sw (.v 135) 0 (.lit 0) (.sw (.v 135) 1 (.lit 1) (.sw (.v 135) 2 (.lit 299) (.sw (.v 135) 3 (.lit 300) (.sw (.v 135) 4 (.lit 450) (.sw (.v 135) 5 (.lit 900) (.sw (.v 135) 6 (.lit 1800) (.sw (.v 135) 7 (.lit 2701) (.lit 3599))))))))), (.lit 0), (.v 139), (.v 3), (.v 4), (.v 5), (.v 6), (.v 7), (.v 8), (.v 9), (.v 10), (.v 11), (.v 12), (.v 13), (.v 14), (.v 16), (.v 17), (.v 18), (.v 19), (.v 20), (.v 21), (.v 22), (.v 23), (.v 24), (.v 25), (.v 26), (.v 27), (.v 29), (.v 30), (.v 31), (.v 32), (.v 33), (.v 34), (.v 35), (.v 36), (.v 37), (.v 38), (.v 39), (.v 40), (.v 42), (.v 43), (.v 44), (.v 45), (.v 46), (.v 47), (.v 48), (.v 49), (.v 50), (.v 51), (.v 52), (.v 53), (.v 55), (.v 56), (.v 57), (.v 58), (.v 59), (.v 60), (.v 61), (.v 62), (.v 63), (.v 64), (.v 65), (.v 66), (.v 68), (.v 69), (.v 70), (.v 71), (.v 72), (.v 73), (.v 74), (.v 75), (.v 76), (.v 77), (.v 78), (.v 79), (.v 81), (.v 82), (.v 83), (.v 84), (.v 85), (.v 86), (.v 87), (.v 88), (.v 89), (.v 90), (.v 91), (.v 92), (.v 94), (.v 95), (.v 96), (.v 97), (.v 98), (.v 99), (.v 100), (.v 101), (.v 102), (.v 103), (.v 104), (.v 105), (.v 107), (.v 108), (.v 109), (.v 110), (.v 111), (.v 112), (.v 113), (.v 114), (.v 115), (.v 116), (.v 117), (.v 118)] 4
 (.ite (.not (.and (.eq (.v 141) (.lit 0)) (.and (.eq (.v 142) (.lit 0)) (.eq (.v 143) (.lit 0)))))
  (.leaf ((.bool (.lit false)), [], []))
  (.call 19 [(.sw (.v 119) 0 (.lit 1000) (.sw (.v 119) 1 (.lit 1) (.sw (.v 119) 2 (.lit 30) (.sw (.v 119) 3 (.lit 5000) (.lit 1000000))))), (.sw (.v 121) 0 (.lit 100000) (.sw (.v 121) 1 (.lit 1) (.sw (.v 121) 2 (.lit 500) (.lit 1073741824)))), (.mn (.sw (.v 123) 0 (.lit 0) (.sw (.v 123) 1 (.lit 1) (.sw (.v 123) 2 (.quo (.sw (.v 119) 0 (.lit 1000) (.sw (.v 119) 1 (.lit 1) (.sw (.v 119) 2 (.lit 30) (.sw (.v 119) 3 (.lit 5000) (.lit 1000000))))) (.lit 10)) (.sw (.v 119) 0 (.lit 1000) (.sw (.v 119) 1 (.lit 1) (.sw (.v 119) 2 (.lit 30) (.sw (.v 119) 3 (.lit 5000) (.lit 1000000)))))))) (.sw (.v 119) 0 (.lit 1000) (.sw (.v 119) 1 (.lit 1) (.sw (.v 119) 2 (.lit 30) (.sw (.v 119) 3 (.lit 5000) (.lit 1000000)))))), (.mn (.sw (.v 125) 0 (.lit 0) (.sw (.v 125) 1 (.lit 1) (.sw (.v 125) 2 (.quo (.sw (.v 121) 0 (.lit 100000) (.sw (.v 121) 1 (.lit 1) (.sw (.v 121) 2 (.lit 500) (.lit 1073741824)))) (.lit 10)) (.sw (.v 121) 0 (.lit 100000) (.sw (.v 121) 1 (.lit 1) (.sw (.v 121) 2 (.lit 500) (.lit 1073741824))))))) (.sw (.v 121) 0 (.lit 100000) (.sw (.v 121) 1 (.lit 1) (.sw (.v 121) 2 (.lit 500) (.lit 1073741824))))), (.sw (.v 127) 0 (.lit 0) (.sw (.v 127) 1 (.lit 1) (.sw (.v 127) 2 (.lit 299) (.sw (.v 127) 3 (.lit 300) (.sw (.v 127) 4 (.lit 450) (.sw (.v 127) 5 (.lit 900) (.sw (.v 127) 6 (.lit 1800) (.sw (.v 127) 7 (.lit 2701) (.lit 3599))))))))), (.sw (.v 129) 0 (.lit 0) (.sw (.v 129) 1 (.lit 0) (.sw (.v 129) 2 (.lit 50) (.sw (.v 129) 3 (.lit 100) (.sw (.v 129) 4 (.lit 200) (.lit 1000)))))), (.sw (.v 131) 0 (.lit 0) (.sw (.v 131) 1 (.lit 1) (.sw (.v 131) 2 (.lit 299) (.sw (.v 131) 3 (.lit 300) (.sw (.v 131) 4 (.lit 450) (.sw (.v 131) 5 (.lit 900) (.sw (.v 131) 6 (.lit 1800) (.sw (.v 131) 7 (.lit 2701) (.lit 3599))))))))), (.sw (.v 133) 0 (.lit 0) (.sw (.v 133) 1 (.lit 0) (.sw (.v 133) 2 (.lit 50) (.sw (.v 133) 3 (.lit 100) (.sw (.v 133) 4 (.lit 200) (.lit 1000)))))), (.sw (.v 135) 0 (.lit 0) (.sw (.v 135) 1 (.lit 1) (.sw (.v 135) 2 (.lit 299) (.sw (.v 135) 3 (.lit 300) (.sw (.v 135) 4 (.lit 450) (.sw (.v 135) 5 (.lit 900) (.sw (.v 135) 6 (.lit 1800) (.sw (.v 135) 7 (.lit 2701) (.lit 3599))))))))), (.sw (.v 137) 0 (.lit 0) (.sw (.v 137) 1 (.lit 0) (.sw (.v 137) 2 (.lit 50) (.sw (.v 137) 3 (.lit 100) (.sw (.v 137) 4 (.lit 200) (.lit 1000)))))), (.v 139), (.v 3), (.v 4), (.v 5), (.v 6), (.v 7), (.v 8), (.v 9), (.v 10), (.v 11), (.v 12), (.v 13), (.v 14), (.v 16), (.v 17), (.v 18), (.v 19), (.v 20), (.v 21), (.v 22), (.v 23), (.v 24), (.v 25), (.v 26), (.v 27), (.v 29), (.v 30), (.v 31), (.v 32), (.v 33), (.v 34), (.v 35), (.v 36), (.v 37), (.v 38), (.v 39), (.v 40), (.v 42), (.v 43), (.v 44), (.v 45), (.v 46), (.v 47), (.v 48), (.v 49), (.v 50), (.v 51), (.v 52), (.v 53), (.v 55), (.v 56), (.v 57), (.v 58), (.v 59), (.v 60), (.v 61), (.v 62), (.v 63), (.v 64), (.v 65), (.v 66), (.v 68), (.v 69), (.v 70), (.v 71), (.v 72), (.v 73), (.v 74), (.v 75), (.v 76), (.v 77), (.v 78), (.v 79), (.v 81), (.v 82), (.v 83), (.v 84), (.v 85), (.v 86), (.v 87), (.v 88), (.v 89), (.v 90), (.v 91), (.v 92), (.v 94), (.v 95), (.v 96), (.v 97), (.v 98), (.v 99), (.v 100), (.v 101), (.v 102), (.v 103), (.v 104), (.v 105), (.v 107), (.v 108), (.v 109), (.v 110), (.v 111), (.v 112), (.v 113), (.v 114), (.v 115), (.v 116), (.v 117), (.v 118)] 4
  (.call 19 [(.sw (.v 119) 0 (.lit 1000) (.sw (.v 119) 1 (.lit 1) (.sw (.v 119) 2 (.lit 30) (.sw (.v 119) 3 (.lit 5000) (.lit 1000000))))), (.sw (.v 121) 0 (.lit 100000) (.sw (.v 121) 1 (.lit 1) (.sw (.v 121) 2 (.lit 500) (.lit 1073741824)))), (.mn (.sw (.v 123) 0 (.lit 0) (.sw (.v 123) 1 (.lit 1) (.sw (.v 123) 2 (.quo (.sw (.v 119) 0 (.lit 1000) (.sw (.v 119) 1 (.lit 1) (.sw (.v 119) 2 (.lit 30) (.sw (.v 119) 3 (.lit 5000) (.lit 1000000))))) (.lit 10)) (.sw (.v 119) 0 (.lit 1000) (.sw (.v 119) 1 (.lit 1) (.sw (.v 119) 2 (.lit 30) (.sw (.v 119) 3 (.lit 5000) (.lit 1000000)))))))) (.sw (.v 119) 0 (.lit 1000) (.sw (.v 119) 1 (.lit 1) (.sw (.v 119) 2 (.lit 30) (.sw (.v 119) 3 (.lit 5000) (.lit 1000000)))))), (.mn (.sw (.v 125) 0 (.lit 0) (.sw (.v 125) 1 (.lit 1) (.sw (.v 125) 2 (.quo (.sw (.v 121) 0 (.lit 100000) (.sw (.v 121) 1 (.lit 1) (.sw (.v 121) 2 (.lit 500) (.lit 1073741824)))) (.lit 10)) (.sw (.v 121) 0 (.lit 100000) (.sw (.v 121) 1 (.lit 1) (.sw (.v 121) 2 (.lit 500) (.lit 1073741824))))))) (.sw (.v 121) 0 (.lit 100000) (.sw (.v 121) 1 (.lit 1) (.sw (.v 121) 2 (.lit 500) (.lit 1073741824))))), (.sw (.v 127) 0 (.lit 0) (.sw (.v 127) 1 (.lit 1) (.sw (.v 127) 2 (.lit 299) (.sw (.v 127) 3 (.lit 300) (.sw (.v 127) 4 (.lit 450) (.sw (.v 127) 5 (.lit 900) (.sw (.v 127) 6 (.lit 1800) (.sw (.v 127) 7 (.lit 2701) (.lit 3599))))))))), (.sw (.v 129) 0 (.lit 0) (.sw (.v 129) 1 (.lit 0) (.sw (.v 129) 2 (.lit 50) (.sw (.v 129) 3 (.lit 100) (.sw (.v 129) 4 (.lit 200) (.lit 1000)))))), (.lit 0), (.lit 0), (.lit 0), (.lit 0), (.v 139), (.v 3), (.v 4), (.v 5), (.v 6), (.v 7), (.v 8), (.v 9), (.v 10), (.v 11), (.v 12), (.v 13), (.v 14), (.v 16), (.v 17), (.v 18), (.v 19), (.v 20), (.v 21), (.v 22), (.v 23), (.v 24), (.v 25), (.v 26), (.v 27), (.v 29), (.v 30), (.v 31), (.v 32), (.v 33), (.v 34), (.v 35), (.v 36), (.v 37), (.v 38), (.v 39), (.v 40), (.v 42), (.v 43), (.v 44), (.v 45), (.v 46), (.v 47), (.v 48), (.v 49), (.v 50), (.v 51), (.v 52), (.v 53), (.v 55), (.v 56), (.v 57), (.v 58), (.v 59), (.v 60), (.v 61), (.v 62), (.v 63), (.v 64), (.v 65), (.v 66), (.v 68), (.v 69), (.v 70), (.v 71), (.v 72), (.v 73), (.v 74), (.v 75), (.v 76), (.v 77), (.v 78), (.v 79), (.v 81), (.v 82), (.v 83), (.v 84), (.v 85), (.v 86), (.v 87), (.v 88), (.v 89), (.v 90), (.v 91), (.v 92), (.v 94), (.v 95), (.v 96), (.v 97), (.v 98), (.v 99), (.v 100), (.v 101), (.v 102), (.v 103), (.v 104), (.v 105), (.v 107), (.v 108), (.v 109), (.v 110), (.v 111), (.v 112), (.v 113), (.v 114), (.v 115), (.v 116), (.v 117), (.v 118)] 4
  (.call 19 [(.sw (.v 119) 0 (.lit 1000) (.sw (.v 119) 1 (.lit 1) (.sw (.v 119) 2 (.lit 30) (.sw (.v 119) 3 (.lit 5000) (.lit 1000000))))), (.sw (.v 121) 0 (.lit 100000) (.sw (.v 121) 1 (.lit 1) (.sw (.v 121) 2 (.lit 500) (.lit 1073741824)))), (.mn (.sw (.v 123) 0 (.lit 0) (.sw (.v 123) 1 (.lit 1) (.sw (.v 123) 2 (.quo (.sw (.v 119) 0 (.lit 1000) (.sw (.v 119) 1 (.lit 1) (.sw (.v 119) 2 (.lit 30) (.sw (.v 119) 3 (.lit 5000) (.lit 1000000))))) (.lit 10)) (.sw (.v 119) 0 (.lit 1000) (.sw (.v 119) 1 (.lit 1) (.sw (.v 119) 2 (.lit 30) (.sw (.v 119) 3 (.lit 5000) (.lit 1000000)))))))) (.sw (.v 119) 0 (.lit 1000) (.sw (.v 119) 1 (.lit 1) (.sw (.v 119) 2 (.lit 30) (.sw (.v 119) 3 (.lit 5000) (.lit 1000000)))))), (.mn (.sw (.v 125) 0 (.lit 0) (.sw (.v 125) 1 (.lit 1) (.sw (.v 125) 2 (.quo (.sw (.v 121) 0 (.lit 100000) (.sw (.v 121) 1 (.lit 1) (.sw (.v 121) 2 (.lit 500) (.lit 1073741824)))) (.lit 10)) (.sw (.v 121) 0 (.lit 100000) (.sw (.v 121) 1 (.lit 1) (.sw (.v 121) 2 (.lit 500) (.lit 1073741824))))))) (.sw (.v 121) 0 (.lit 100000) (.sw (.v 121) 1 (.lit 1) (.sw (.v 121) 2 (.lit 500) (.lit 1073741824))))), (.lit 0), (.lit 0), (.sw (.v 131) 0 (.lit 0) (.sw (.v 131) 1 (.lit 1) (.sw (.v 131) 2 (.lit 299) (.sw (.v 131) 3 (.lit 300) (.sw (.v 131) 4 (.lit 450) (.sw (.v 131) 5 (.lit 900) (.sw (.v 131) 6 (.lit 1800) (.sw (.v 131) 7 (.lit 2701) (.lit 3599))))))))), (.sw (.v 133) 0 (.lit 0) (.sw (.v 133) 1 (.lit 0) (.sw (.v 133) 2 (.lit 50) (.sw (.v 133) 3 (.lit 100) (.sw (.v 133) 4 (.lit 200) (.lit 1000)))))), (.lit 0), (.lit 0), (.v 139), (.v 3), (.v 4), (.v 5), (.v 6), (.v 7), (.v 8), (.v 9), (.v 10), (.v 11), (.v 12), (.v 13), (.v 14), (.v 16), (.v 17), (.v 18), (.v 19), (.v 20), (.v 21), (.v 22), (.v 23), (.v 24), (.v 25), (.v 26), (.v 27), (.v 29), (.v 30), (.v 31), (.v 32), (.v 33), (.v 34), (.v 35), (.v 36), (.v 37), (.v 38), (.v 39), (.v 40), (.v 42), (.v 43), (.v 44), (.v 45), (.v 46), (.v 47), (.v 48), (.v 49), (.v 50), (.v 51), (.v 52), (.v 53), (.v 55), (.v 56), (.v 57), (.v 58), (.v 59), (.v 60), (.v 61), (.v 62), (.v 63), (.v 64), (.v 65), (.v 66), (.v 68), (.v 69), (.v 70), (.v 71), (.v 72), (.v 73), (.v 74), (.v 75), (.v 76), (.v 77), (.v 78), (.v 79), (.v 81), (.v 82), (.v 83), (.v 84), (.v 85), (.v 86), (.v 87), (.v 88), (.v 89), (.v 90), (.v 91), (.v 92), (.v 94), (.v 95), (.v 96), (.v 97), (.v 98), (.v 99), (.v 100), (.v 101), (.v 102), (.v 103), (.v 104), (.v 105), (.v 107), (.v 108), (.v 109), (.v 110), (.v 111), (.v 112), (.v 113), (.v 114), (.v 115), (.v 116), (.v 117), (.v 118)] 4
  (.call 19 [(.sw (.v 119) 0 (.lit 1000) (.sw (.v 119) 1 (.lit 1) (.sw (.v 119) 2 (.lit 30) (.sw (.v 119) 3 (.lit 5000) (.lit 1000000))))), (.sw (.v 121) 0 (.lit 100000) (.sw (.v 121) 1 (.lit 1) (.sw (.v 121) 2 (.lit 500) (.lit 1073741824)))), (.mn (.sw (.v 123) 0 (.lit 0) (.sw (.v 123) 1 (.lit 1) (.sw (.v 123) 2 (.quo (.sw (.v 119) 0 (.lit 1000) (.sw (.v 119) 1 (.lit 1) (.sw (.v 119) 2 (.lit 30) (.sw (.v 119) 3 (.lit 5000) (.lit 1000000))))) (.lit 10)) (.sw (.v 119) 0 (.lit 1000) (.sw (.v 119) 1 (.lit 1) (.sw (.v 119) 2 (.lit 30) (.sw (.v 119) 3 (.lit 5000) (.lit 1000000)))))))) (.sw (.v 119) 0 (.lit 1000) (.sw (.v 119) 1 (.lit 1) (.sw (.v 119) 2 (.lit 30) (.sw (.v 119) 3 (.lit 5000) (.lit 1000000)))))), (.mn (.sw (.v 125) 0 (.lit 0) (.sw (.v 125) 1 (.lit 1) (.sw (.v 125) 2 (.quo (.sw (.v 121) 0 (.lit 100000) (.sw (.v 121) 1 (.lit 1) (.sw (.v 121) 2 (.lit 500) (.lit 1073741824)))) (.lit 10)) (.sw (.v 121) 0 (.lit 100000) (.sw (.v 121) 1 (.lit 1) (.sw (.v 121) 2 (.lit 500) (.lit 1073741824))))))) (.sw (.v 121) 0 (.lit 100000) (.sw (.v 121) 1 (.lit 1) (.sw (.v 121) 2 (.lit 500) (.lit 1073741824))))), (.lit 0), (.lit 0), (.lit 0), (.lit 0), (.sw (.v 135) 0 (.lit 0) (.sw (.v 135) 1 (.lit 1) (.sw (.v 135) 2 (.lit 299) (.sw (.v 135) 3 (.lit 300) (.sw (.v 135) 4 (.lit 450) (.sw (.v 135) 5 (.lit 900) (.sw (.v 135) 6 (.lit 1800) (.sw (.v 135) 7 (.lit 2701) (.lit 3599))))))))), (.sw (.v 137) 0 (.lit 0) (.sw (.v 137) 1 (.lit 0) (.sw (.v 137) 2 (.lit 50) (.sw (.v 137) 3 (.lit 100) (.sw (.v 137) 4 (.lit 200) (.lit 1000)))))), (.v 139), (.v 3), (.v 4), (.v 5), (.v 6), (.v 7), (.v 8), (.v 9), (.v 10), (.v 11), (.v 12), (.v 13), (.v 14), (.v 16), (.v 17), (.v 18), (.v 19), (.v 20), (.v 21), (.v 22), (.v 23), (.v 24), (.v 25), (.v 26), (.v 27), (.v 29), (.v 30), (.v 31), (.v 32), (.v 33), (.v 34), (.v 35), (.v 36), (.v 37), (.v 38), (.v 39), (.v 40), (.v 42), (.v 43), (.v 44), (.v 45), (.v 46), (.v 47), (.v 48), (.v 49), (.v 50), (.v 51), (.v 52), (.v 53), (.v 55), (.v 56), (.v 57), (.v 58), (.v 59), (.v 60), (.v 61), (.v 62), (.v 63), (.v 64), (.v 65), (.v 66), (.v 68), (.v 69), (.v 70), (.v 71), (.v 72), (.v 73), (.v 74), (.v 75), (.v 76), (.v 77), (.v 78), (.v 79), (.v 81), (.v 82), (.v 83), (.v 84), (.v 85), (.v 86), (.v 87), (.v 88), (.v 89), (.v 90), (.v 91), (.v 92), (.v 94), (.v 95), (.v 96), (.v 97), (.v 98), (.v 99), (.v 100), (.v 101), (.v 102), (.v 103), (.v 104), (.v 105), (.v 107), (.v 108), (.v 109), (.v 110), (.v 111), (.v 112), (.v 113), (.v 114), (.v 115), (.v 116), (.v 117), (.v 118)] 4
  (.ite (.and (.and (.eq (.v 145) (.add (.add (.v 149) (.v 153)) (.v 157))) (.eq (.v 146) (.add (.add (.v 150) (.v 154)) (.v 158)))) (.eq (.v 147) (.add (.add (.v 151) (.v 155)) (.v 159))))
   (.call 10 [] 1
   (.leaf ((.bool (.lit true)), [], []))
   )
   (.leaf ((.bool (.lit false)), [], []))
  )
  )
  )
  )
  )
 )
 )
 
def tree2 : T Leaf :=
 (.call 900 [(.lit 3600), (.mn (.v 0) (.lit 600)), (.v 138)] 2
tree1)
 
def tree3 : T Leaf :=
 (.call 900 [(.lit 6), (.mn (.v 0) (.lit 600)), (.v 136)] 2
tree2)
 
def tree4 : T Leaf :=
 (.call 900 [(.lit 9), (.mn (.v 0) (.lit 600)), (.v 134)] 2
tree3)
 
def tree5 : T Leaf :=
 (.call 900 [(.lit 6), (.mn (.v 0) (.lit 600)), (.v 132)] 2
tree4)
 
def tree6 : T Leaf :=
 (.call 900 [(.lit 9), (.mn (.v 0) (.lit 600)), (.v 130)] 2
tree5)
 
def tree7 : T Leaf :=
 (.call 900 [(.lit 6), (.mn (.v 0) (.lit 600)), (.v 128)] 2
tree6)
 
def tree8 : T Leaf :=
 (.call 900 [(.lit 9), (.mn (.v 0) (.lit 600)), (.v 126)] 2
tree7)
 
def tree9 : T Leaf :=
 (.call 900 [(.lit 4), (.mn (.v 0) (.lit 600)), (.v 124)] 2
tree8)
 
def tree10 : T Leaf :=
 (.call 900 [(.lit 4), (.mn (.v 0) (.lit 600)), (.v 122)] 2
tree9)
 
def tree11 : T Leaf :=
 (.call 900 [(.lit 4), (.mn (.v 0) (.lit 600)), (.v 120)] 2
tree10)
 
def tree : T Leaf :=
(.ite (.lt (.lit 600) (.v 0))
 (.call 10 [] 1
 (.leaf ((.bool (.lit true)), [], []))
 )
 (.call 11 [(.mn (.v 0) (.lit 600)), (.v 1), (.lit 0)] 13
 (.call 11 [(.mn (.v 0) (.lit 600)), (.v 1), (.v 2)] 13
 (.call 11 [(.mn (.v 0) (.lit 600)), (.v 1), (.v 15)] 13
 (.call 11 [(.mn (.v 0) (.lit 600)), (.v 1), (.v 28)] 13
 (.call 11 [(.mn (.v 0) (.lit 600)), (.v 1), (.v 41)] 13
 (.call 11 [(.mn (.v 0) (.lit 600)), (.v 1), (.v 54)] 13
 (.call 11 [(.mn (.v 0) (.lit 600)), (.v 1), (.v 67)] 13
 (.call 11 [(.mn (.v 0) (.lit 600)), (.v 1), (.v 80)] 13
 (.call 11 [(.mn (.v 0) (.lit 600)), (.v 1), (.v 93)] 13
 (.call 900 [(.lit 5), (.mn (.v 0) (.lit 600)), (.v 106)] 2
tree11)
 )
 )
 )
 )
 )
 )
 )
 )
 )
)
theorem tree_eq : (evFn Try.prog (rowCtxE (exL en19) [] hints) 60 12 8 (.sls 0 (.v 0) (.v 1) :: shsS SS 2) [] (rowFx (rngE 2 (ksRg (shsKs SS)))) (shsW SS + 2)).strip = tree := by kernel_rfl
def JJ : Nat → List Int → List Int → Prop := fun _ _ _ => True
theorem zero {l c : Int} {z : List Int} {g : Nat → List Int → List Int} (hg : EnOK g l c z en19) {ρ : List Int} {es : List E} {X0 X1 X2 : Int}
    (e0 : X0 = (g 19 (es.map (den ρ))).getD 0 0)
    (e1 : X1 = (g 19 (es.map (den ρ))).getD 1 0)
    (e2 : X2 = (g 19 (es.map (den ρ))).getD 2 0)
    (len : es.length = 119) (h5 : es.getD 5 (.lit 0) = .lit 0) (h7 : es.getD 7 (.lit 0) = .lit 0) (h9 : es.getD 9 (.lit 0) = .lit 0) : X0 = 0 ∧ X1 = 0 ∧ X2 = 0 := by
  have key := g19x hg (xs := es.map (den ρ)) (by rw [List.length_map, len])
  rw [← getD_den ρ es 5, ← getD_den ρ es 7, ← getD_den ρ es 9, h5, h7, h9] at key
  simp only [tot, den, compZ_zero] at key
  rw [e0, e1, e2, key]
  exact ⟨rfl, rfl, rfl⟩
theorem mem11 (k : Nat) : memN (k + 11) [4, 5, 6, 7, 8, 9] = false := by
  cases hm : memN (k + 11) [4, 5, 6, 7, 8, 9] with
  | false => rfl
  | true => have := memN_iff.1 hm; simp at this
theorem sums {l c : Int} {z : List Int} {g : Nat → List Int → List Int} (hg : EnOK g l c z en19) {ρ ρy ρz ρu ρw : List Int} {ey ez eu ew : List E} {n : Nat} {Y0 Y1 Y2 Z0 Z1 Z2 U0 U1 U2 W0 W1 W2 : Int} (hl : ρ.length = n)
    (y0 : Y0 = (g 19 (ey.map (den ρy))).getD 0 0)
    (y1 : Y1 = (g 19 (ey.map (den ρy))).getD 1 0)
    (y2 : Y2 = (g 19 (ey.map (den ρy))).getD 2 0)
    (w0 : Z0 = (g 19 (ez.map (den ρz))).getD 0 0)
    (w1 : Z1 = (g 19 (ez.map (den ρz))).getD 1 0)
    (w2 : Z2 = (g 19 (ez.map (den ρz))).getD 2 0)
    (u0 : U0 = (g 19 (eu.map (den ρu))).getD 0 0)
    (u1 : U1 = (g 19 (eu.map (den ρu))).getD 1 0)
    (u2 : U2 = (g 19 (eu.map (den ρu))).getD 2 0)
    (v0 : W0 = (g 19 (ew.map (den ρw))).getD 0 0)
    (v1 : W1 = (g 19 (ew.map (den ρw))).getD 1 0)
    (v2 : W2 = (g 19 (ew.map (den ρw))).getD 2 0)
    (py : ∃ s, ρy = ρ ++ s) (pz : ∃ s, ρz = ρy ++ s) (pu : ∃ s, ρu = ρy ++ s) (pw : ∃ s, ρw = ρy ++ s) (hc : ey.all (clE n) = true)
    (hz : sameBut [4, 5, 6, 7, 8, 9] 0 ez ey = true) (hu : sameBut [4, 5, 6, 7, 8, 9] 0 eu ey = true) (hw : sameBut [4, 5, 6, 7, 8, 9] 0 ew ey = true)
    (lens : ey.length = 119 ∧ ez.length = 119 ∧ eu.length = 119 ∧ ew.length = 119)
    (tz : ez.getD 4 (.lit 0) = ey.getD 4 (.lit 0) ∧ ez.getD 5 (.lit 0) = ey.getD 5 (.lit 0) ∧ ez.getD 7 (.lit 0) = .lit 0 ∧ ez.getD 9 (.lit 0) = .lit 0)
    (tu : eu.getD 6 (.lit 0) = ey.getD 6 (.lit 0) ∧ eu.getD 7 (.lit 0) = ey.getD 7 (.lit 0) ∧ eu.getD 5 (.lit 0) = .lit 0 ∧ eu.getD 9 (.lit 0) = .lit 0)
    (tw : ew.getD 8 (.lit 0) = ey.getD 8 (.lit 0) ∧ ew.getD 9 (.lit 0) = ey.getD 9 (.lit 0) ∧ ew.getD 5 (.lit 0) = .lit 0 ∧ ew.getD 7 (.lit 0) = .lit 0) :
    Y0 = Z0 + U0 + W0 ∧ Y1 = Z1 + U1 + W1 ∧ Y2 = Z2 + U2 + W2 := by
  obtain ⟨sy, rfl⟩ := py
  obtain ⟨sz, rfl⟩ := pz
  obtain ⟨su, rfl⟩ := pu
  obtain ⟨sw, rfl⟩ := pw
  have cl : ∀ (t : List Int) (j : Nat), j < 119 → den (ρ ++ sy ++ t) (ey.getD j (.lit 0)) = den (ρ ++ sy) (ey.getD j (.lit 0)) := fun t j hj => by
    have e : ey.getD j (.lit 0) = ey[j] := by simp [List.getD_eq_getElem?_getD, List.getElem?_eq_getElem (show j < ey.length by omega)]
    rw [e]
    have hm := List.all_eq_true.1 hc _ (List.getElem_mem (show j < ey.length by omega))
    rw [List.append_assoc, clE_ok hm (by omega) _, clE_ok hm (by omega) _]
  have hC : ∀ (t : List Int) (es : List E), sameBut [4, 5, 6, 7, 8, 9] 0 es ey = true → ∀ j, memN j [4, 5, 6, 7, 8, 9] = false → (es.map (den (ρ ++ sy ++ t))).getD j 0 = (ey.map (den (ρ ++ sy))).getD j 0 := fun t es h j hj => by
    rw [List.append_assoc, map_same hl hc h j hj]
    rw [← map_same (es' := ey) (s := sy) hl hc (sameBut_refl _ _ ey) j hj]
  have kY := g19x hg (xs := ey.map (den (ρ ++ sy))) (by rw [List.length_map]; exact lens.1)
  have kZ := g19x hg (xs := ez.map (den (ρ ++ sy ++ sz))) (by rw [List.length_map]; exact lens.2.1)
  have kU := g19x hg (xs := eu.map (den (ρ ++ sy ++ su))) (by rw [List.length_map]; exact lens.2.2.1)
  have kW := g19x hg (xs := ew.map (den (ρ ++ sy ++ sw))) (by rw [List.length_map]; exact lens.2.2.2)
  rw [funext fun k => hC sz ez hz (k + 11) (mem11 k), hC sz ez hz 10 rfl, ← getD_den _ ez 4, ← getD_den _ ez 5, ← getD_den _ ez 7, ← getD_den _ ez 9, tz.1, tz.2.1, tz.2.2.1, tz.2.2.2, cl sz 4 (by omega), cl sz 5 (by omega)] at kZ
  rw [funext fun k => hC su eu hu (k + 11) (mem11 k), hC su eu hu 10 rfl, ← getD_den _ eu 6, ← getD_den _ eu 7, ← getD_den _ eu 5, ← getD_den _ eu 9, tu.1, tu.2.1, tu.2.2.1, tu.2.2.2, cl su 6 (by omega), cl su 7 (by omega)] at kU
  rw [funext fun k => hC sw ew hw (k + 11) (mem11 k), hC sw ew hw 10 rfl, ← getD_den _ ew 8, ← getD_den _ ew 9, ← getD_den _ ew 5, ← getD_den _ ew 7, tw.1, tw.2.1, tw.2.2.1, tw.2.2.2, cl sw 8 (by omega), cl sw 9 (by omega)] at kW
  rw [← getD_den _ ey 4, ← getD_den _ ey 5, ← getD_den _ ey 6, ← getD_den _ ey 7, ← getD_den _ ey 8, ← getD_den _ ey 9] at kY
  simp only [tot, den, compZ_zero, Int.zero_add, Int.add_zero] at kY kZ kU kW
  rw [y0, y1, y2, w0, w1, w2, u0, u1, u2, v0, v1, v2, kY, kZ, kU, kW]
  exact ⟨rfl, rfl, rfl⟩

set_option maxHeartbeats 4000000 in
theorem plain (l c : Int) (z : List Int) (g : Nat → List Int → List Int) (hg : EnOK g l c z en19) (hr : KsOK (shsKs SS) []) : T.okJ JJ g LTrue [l, c] tree := by
  unfold tree
  refine okJ_ite (fun _ => okJ_c1 (by decide) fun _ _ => rfl) fun _ => ?_
  refine okJ_L (n := 2) rfl (by decide) fun r0 h0 => ?_
  refine okJ_L (n := 15) h0 (by decide) fun r1 h1 => ?_
  refine okJ_L (n := 28) h1 (by decide) fun r2 h2 => ?_
  refine okJ_L (n := 41) h2 (by decide) fun r3 h3 => ?_
  refine okJ_L (n := 54) h3 (by decide) fun r4 h4 => ?_
  refine okJ_L (n := 67) h4 (by decide) fun r5 h5 => ?_
  refine okJ_L (n := 80) h5 (by decide) fun r6 h6 => ?_
  refine okJ_L (n := 93) h6 (by decide) fun r7 h7 => ?_
  refine okJ_L (n := 106) h7 (by decide) fun r8 h8 => ?_
  refine okJ_S (n := 119) h8 fun r9 h9 => ?_
  unfold tree11
  refine okJ_S (n := 121) h9 fun r10 h10 => ?_
  unfold tree10
  refine okJ_S (n := 123) h10 fun r11 h11 => ?_
  unfold tree9
  refine okJ_S (n := 125) h11 fun r12 h12 => ?_
  unfold tree8
  refine okJ_S (n := 127) h12 fun r13 h13 => ?_
  unfold tree7
  refine okJ_S (n := 129) h13 fun r14 h14 => ?_
  unfold tree6
  refine okJ_S (n := 131) h14 fun r15 h15 => ?_
  unfold tree5
  refine okJ_S (n := 133) h15 fun r16 h16 => ?_
  unfold tree4
  refine okJ_S (n := 135) h16 fun r17 h17 => ?_
  unfold tree3
  refine okJ_S (n := 137) h17 fun r18 h18 => ?_
  unfold tree2
  refine okJ_S (n := 139) h18 fun r19 h19 => ?_
  unfold tree1
  have hl : r19.length = 141 := h19
  generalize r19 = ρ at hl ⊢
  refine okJ_c4 (by decide) fun X0 X1 X2 X3 e0 e1 e2 _ => ?_
  obtain ⟨z0, z1, z2⟩ := zero hg e0 e1 e2 rfl rfl rfl rfl
  refine okJ_ite (fun h => ?_) fun _ => ?_
  · exfalso
    have h : (!(decide ((ρ ++ [X0, X1, X2, X3]).getD 141 0 = 0) && (decide ((ρ ++ [X0, X1, X2, X3]).getD 142 0 = 0) && decide ((ρ ++ [X0, X1, X2, X3]).getD 143 0 = 0)))) = true := h
    rw [getD_at hl 0, getD_at hl 1, getD_at hl 2] at h
    simp [z0, z1, z2] at h
  · refine okJ_c4 (by decide) fun Y0 Y1 Y2 Y3 y0 y1 y2 _ => ?_
    refine okJ_c4 (by decide) fun Z0 Z1 Z2 Z3 w0 w1 w2 _ => ?_
    refine okJ_c4 (by decide) fun U0 U1 U2 U3 u0 u1 u2 _ => ?_
    refine okJ_c4 (by decide) fun W0 W1 W2 W3 v0 v1 v2 _ => ?_
    obtain ⟨q0, q1, q2⟩ := sums hg hl y0 y1 y2 w0 w1 w2 u0 u1 u2 v0 v1 v2 ⟨_, rfl⟩ ⟨_, rfl⟩ ⟨_, by rw [List.append_assoc]⟩ ⟨_, by rw [List.append_assoc, List.append_assoc]⟩
      (by kernel_rfl) (by kernel_rfl) (by kernel_rfl) (by kernel_rfl) ⟨rfl, rfl, rfl, rfl⟩ ⟨rfl, rfl, rfl, rfl⟩ ⟨rfl, rfl, rfl, rfl⟩ ⟨rfl, rfl, rfl, rfl⟩
    refine okJ_ite (fun _ => okJ_c1 (by decide) fun _ _ => rfl) fun h => ?_
    exfalso
    have h : (decide ((ρ ++ [X0, X1, X2, X3] ++ [Y0, Y1, Y2, Y3] ++ [Z0, Z1, Z2, Z3] ++ [U0, U1, U2, U3] ++ [W0, W1, W2, W3]).getD 145 0 = (ρ ++ [X0, X1, X2, X3] ++ [Y0, Y1, Y2, Y3] ++ [Z0, Z1, Z2, Z3] ++ [U0, U1, U2, U3] ++ [W0, W1, W2, W3]).getD 149 0 + (ρ ++ [X0, X1, X2, X3] ++ [Y0, Y1, Y2, Y3] ++ [Z0, Z1, Z2, Z3] ++ [U0, U1, U2, U3] ++ [W0, W1, W2, W3]).getD 153 0 + (ρ ++ [X0, X1, X2, X3] ++ [Y0, Y1, Y2, Y3] ++ [Z0, Z1, Z2, Z3] ++ [U0, U1, U2, U3] ++ [W0, W1, W2, W3]).getD 157 0) &&
      decide ((ρ ++ [X0, X1, X2, X3] ++ [Y0, Y1, Y2, Y3] ++ [Z0, Z1, Z2, Z3] ++ [U0, U1, U2, U3] ++ [W0, W1, W2, W3]).getD 146 0 = (ρ ++ [X0, X1, X2, X3] ++ [Y0, Y1, Y2, Y3] ++ [Z0, Z1, Z2, Z3] ++ [U0, U1, U2, U3] ++ [W0, W1, W2, W3]).getD 150 0 + (ρ ++ [X0, X1, X2, X3] ++ [Y0, Y1, Y2, Y3] ++ [Z0, Z1, Z2, Z3] ++ [U0, U1, U2, U3] ++ [W0, W1, W2, W3]).getD 154 0 + (ρ ++ [X0, X1, X2, X3] ++ [Y0, Y1, Y2, Y3] ++ [Z0, Z1, Z2, Z3] ++ [U0, U1, U2, U3] ++ [W0, W1, W2, W3]).getD 158 0) &&
      decide ((ρ ++ [X0, X1, X2, X3] ++ [Y0, Y1, Y2, Y3] ++ [Z0, Z1, Z2, Z3] ++ [U0, U1, U2, U3] ++ [W0, W1, W2, W3]).getD 147 0 = (ρ ++ [X0, X1, X2, X3] ++ [Y0, Y1, Y2, Y3] ++ [Z0, Z1, Z2, Z3] ++ [U0, U1, U2, U3] ++ [W0, W1, W2, W3]).getD 151 0 + (ρ ++ [X0, X1, X2, X3] ++ [Y0, Y1, Y2, Y3] ++ [Z0, Z1, Z2, Z3] ++ [U0, U1, U2, U3] ++ [W0, W1, W2, W3]).getD 155 0 + (ρ ++ [X0, X1, X2, X3] ++ [Y0, Y1, Y2, Y3] ++ [Z0, Z1, Z2, Z3] ++ [U0, U1, U2, U3] ++ [W0, W1, W2, W3]).getD 159 0)) = false := h
    rw [List.append_assoc, List.append_assoc, List.append_assoc, List.append_assoc] at h
    rw [getD_at hl 4, getD_at hl 5, getD_at hl 6, getD_at hl 8, getD_at hl 9, getD_at hl 10, getD_at hl 12, getD_at hl 13, getD_at hl 14, getD_at hl 16, getD_at hl 17, getD_at hl 18] at h
    simp [q0, q1, q2] at h
theorem walk (a0 : Option Addr) (len0 cap0 : Nat) (z0 : List Int) (w : World) (w0 : IsRow .i64 w a0 len0 cap0 z0) (r : List Int) (hr : KsOK (shsKs SS) r) :
    Calls Try.prog 8 (.slice a0 len0 cap0 :: shsV SS r).toArray w fun e w' => e = .returned (.bool true) ∧ Below w.heap.size w w' := by
  match r, hr.length, hr with
  | [], _, hr => exact row_lawX w0 en19_con en19_kl tree_eq (fun g hg => plain _ _ z0 g hg hr) hr
end Go.Proofs.Ytapdjkiekjdgdaa.weatherCalm
