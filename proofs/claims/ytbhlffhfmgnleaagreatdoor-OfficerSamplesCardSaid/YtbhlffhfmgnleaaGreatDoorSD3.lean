/- The law's tree. Made by GenF5.py. -/
import Derived.Test.YtbhlffhfmgnleaaGreatDoorSD2
set_option linter.all false
namespace Go.Ab
open Go Go.Proofs
set_option maxRecDepth 100000
theorem f5 (s : ByteArray) (t : Tag) (zs : List Int) (n : Int) : evBody MZ y5 lpC 5 [.v (.str s), .sl t 1 (zs.map iC), .v (.int .i64 n)] [] = (bif decide (Int.ofNat s.size > (100 : Int)) then some (D.v (V.bool true), [])
 else 
  (bif decide (Int.ofNat (List.map iC zs).length > (20 : Int)) then some (D.v (V.bool true), [])
   else 
    (bif room 8 (List.map iC zs).length then 
      ((decI (window (List.map iC zs) 0 (List.map iC zs).length)).bind fun x => 
        (bif s.size.ble 1000 && x.length.ble 64 then 
          (bif decide (smpE x n = (0 : Int)) then 
            (bif decide (n = (0 : Int)) then 
              (bif room 8 (List.map iC zs).length then 
                ((decI (window (List.map iC zs) 0 (List.map iC zs).length)).bind fun x_1 => 
                  (bif s.size.ble 1000 && x_1.length.ble 64 then 
                    (bif decide (smpE x_1 (Int.ofNat (List.map iC zs).length) = (0 : Int)) then 
                      (bif decide (Int.ofNat (List.map iC zs).length = (0 : Int)) then 
                        ((decI (List.map iC zs)).bind fun x_2 => 
                          (bif !decide ([] = x_2) then some (D.v (V.bool false), [])
                           else 
                            (bif !decide (0 = n) then some (D.v (V.bool false), [])
                             else 
                              (bif decide (n < Int.ofNat (List.map iC zs).length) then 
                                (bif room 8 (List.map iC zs).length then 
                                  ((decI (window (List.map iC zs) 0 (List.map iC zs).length)).bind fun x_3 => 
                                    (bif s.size.ble 1000 && x_3.length.ble 64 then 
                                      (bif decide (smpE x_3 (IntKind.i64.wrap (n + (1 : Int))) = (0 : Int)) then 
                                        (bif decide (IntKind.i64.wrap (n + (1 : Int)) = (0 : Int)) then ((lpC 16 0 (lb MZ y5 lpC 5 0 16) [(1, D.sl t 1 (List.map iC zs)), (6, D.v (V.bool false)), (7, D.v V.nils), (11, D.v V.nils), (82, D.v V.nils), (83, D.v (V.int IntKind.i64 ((0 : Int)))), (84, D.v (V.int IntKind.i64 ((0 : Int))))] [Row.arr 1 0 (List.map iC zs), Row.arr 1 0 (List.map iC zs), Row.arr 1 0 (List.map iC zs)]).bind (contF MZ y5 lpC 5 0 16))
                                         else ((lpC 16 0 (lb MZ y5 lpC 5 0 16) [(1, D.sl t 1 (List.map iC zs)), (6, D.v (V.bool false)), (7, D.v V.nils), (11, D.rs ([Row.arr 1 0 (List.map iC zs), Row.arr 1 0 (List.map iC zs), Row.arr 1 0 (List.map iC zs)].length + (0 - 0)) ((IntKind.i64.wrap (n + 1)).toNat - 1) 1 0 (IntKind.i64.wrap (n + 1)).toNat), (82, D.v V.nils), (83, D.v (V.int IntKind.i64 ((0 : Int)))), (84, D.v (V.int IntKind.i64 ((0 : Int))))] [Row.arr 1 0 (List.map iC zs), Row.arr 1 0 (List.map iC zs), Row.arr 1 0 (List.map iC zs), Row.arr 1 ((IntKind.i64.wrap (n + 1)).toNat - 1) (List.map iC (smp (fP s) x_3 (IntKind.i64.wrap (n + 1)).toNat))]).bind (contF MZ y5 lpC 5 0 16)))
                                       else 
                                        (bif !decide (smpE x_3 (IntKind.i64.wrap (n + 1)) = 0) then some (D.v (V.bool false), [])
                                         else ((lpC 16 0 (lb MZ y5 lpC 5 0 16) [(1, D.sl t 1 (List.map iC zs)), (6, D.v (V.bool false)), (7, D.v V.nils), (11, D.v V.nils), (82, D.v V.nils), (83, D.v (V.int IntKind.i64 ((0 : Int)))), (84, D.v (V.int IntKind.i64 ((0 : Int))))] [Row.arr 1 0 (List.map iC zs), Row.arr 1 0 (List.map iC zs), Row.arr 1 0 (List.map iC zs)]).bind (contF MZ y5 lpC 5 0 16))))
                                     else none))
                                 else none)
                               else ((lpC 16 0 (lb MZ y5 lpC 5 0 16) [(1, D.sl t 1 (List.map iC zs)), (6, D.v (V.bool false)), (7, D.v V.nils), (11, D.sl t 1 (List.map iC zs)), (82, D.v V.nils), (83, D.v (V.int IntKind.i64 ((0 : Int)))), (84, D.v (V.int IntKind.i64 ((0 : Int))))] [Row.arr 1 0 (List.map iC zs), Row.arr 1 0 (List.map iC zs)]).bind (contF MZ y5 lpC 5 0 16))))))
                       else 
                        (bif decide ((Int.ofNat (List.map iC zs).length).toNat - 1 = (Int.ofNat (List.map iC zs).length).toNat - 1) then 
                          ((decI (window (List.map iC (smp (fP s) x_1 (Int.ofNat (List.map iC zs).length).toNat)) 0 (Int.ofNat (List.map iC zs).length).toNat)).bind fun x_2 => 
                            ((decI (List.map iC zs)).bind fun x_3 => 
                              (bif x_2.length.ble 1000000 then 
                                (bif !decide (x_2 = x_3) then some (D.v (V.bool false), [])
                                 else 
                                  (bif !decide (0 = n) then some (D.v (V.bool false), [])
                                   else 
                                    (bif decide (n < Int.ofNat (List.map iC zs).length) then 
                                      (bif room 8 (List.map iC zs).length then 
                                        ((decI (window (List.map iC zs) 0 (List.map iC zs).length)).bind fun x_4 => 
                                          (bif s.size.ble 1000 && x_4.length.ble 64 then 
                                            (bif decide (smpE x_4 (IntKind.i64.wrap (n + (1 : Int))) = (0 : Int)) then 
                                              (bif decide (IntKind.i64.wrap (n + (1 : Int)) = (0 : Int)) then ((lpC 16 0 (lb MZ y5 lpC 5 0 16) [(1, D.sl t 1 (List.map iC zs)), (6, D.v (V.bool false)), (7, D.v V.nils), (11, D.v V.nils), (82, D.v V.nils), (83, D.v (V.int IntKind.i64 ((0 : Int)))), (84, D.v (V.int IntKind.i64 ((0 : Int))))] [Row.arr 1 0 (List.map iC zs), Row.arr 1 0 (List.map iC zs), Row.arr 1 ((↑(List.map iC zs).length : Int).toNat - 1) (List.map iC (smp (fP s) x_1 (↑(List.map iC zs).length : Int).toNat)), Row.arr 1 0 (List.map iC zs)]).bind (contF MZ y5 lpC 5 0 16))
                                               else ((lpC 16 0 (lb MZ y5 lpC 5 0 16) [(1, D.sl t 1 (List.map iC zs)), (6, D.v (V.bool false)), (7, D.v V.nils), (11, D.rs ([Row.arr 1 0 (List.map iC zs), Row.arr 1 0 (List.map iC zs), Row.arr 1 ((↑(List.map iC zs).length : Int).toNat - 1) (List.map iC (smp (fP s) x_1 (↑(List.map iC zs).length : Int).toNat)), Row.arr 1 0 (List.map iC zs)].length + (0 - 0)) ((IntKind.i64.wrap (n + 1)).toNat - 1) 1 0 (IntKind.i64.wrap (n + 1)).toNat), (82, D.v V.nils), (83, D.v (V.int IntKind.i64 ((0 : Int)))), (84, D.v (V.int IntKind.i64 ((0 : Int))))] [Row.arr 1 0 (List.map iC zs), Row.arr 1 0 (List.map iC zs), Row.arr 1 ((↑(List.map iC zs).length : Int).toNat - 1) (List.map iC (smp (fP s) x_1 (↑(List.map iC zs).length : Int).toNat)), Row.arr 1 0 (List.map iC zs), Row.arr 1 ((IntKind.i64.wrap (n + 1)).toNat - 1) (List.map iC (smp (fP s) x_4 (IntKind.i64.wrap (n + 1)).toNat))]).bind (contF MZ y5 lpC 5 0 16)))
                                             else 
                                              (bif !decide (smpE x_4 (IntKind.i64.wrap (n + 1)) = 0) then some (D.v (V.bool false), [])
                                               else ((lpC 16 0 (lb MZ y5 lpC 5 0 16) [(1, D.sl t 1 (List.map iC zs)), (6, D.v (V.bool false)), (7, D.v V.nils), (11, D.v V.nils), (82, D.v V.nils), (83, D.v (V.int IntKind.i64 ((0 : Int)))), (84, D.v (V.int IntKind.i64 ((0 : Int))))] [Row.arr 1 0 (List.map iC zs), Row.arr 1 0 (List.map iC zs), Row.arr 1 ((↑(List.map iC zs).length : Int).toNat - 1) (List.map iC (smp (fP s) x_1 (↑(List.map iC zs).length : Int).toNat)), Row.arr 1 0 (List.map iC zs)]).bind (contF MZ y5 lpC 5 0 16))))
                                           else none))
                                       else none)
                                     else ((lpC 16 0 (lb MZ y5 lpC 5 0 16) [(1, D.sl t 1 (List.map iC zs)), (6, D.v (V.bool false)), (7, D.v V.nils), (11, D.sl t 1 (List.map iC zs)), (82, D.v V.nils), (83, D.v (V.int IntKind.i64 ((0 : Int)))), (84, D.v (V.int IntKind.i64 ((0 : Int))))] [Row.arr 1 0 (List.map iC zs), Row.arr 1 0 (List.map iC zs), Row.arr 1 ((↑(List.map iC zs).length : Int).toNat - 1) (List.map iC (smp (fP s) x_1 (↑(List.map iC zs).length : Int).toNat))]).bind (contF MZ y5 lpC 5 0 16)))))
                               else none)))
                         else none))
                     else 
                      (bif !decide (smpE x_1 (↑(List.map iC zs).length : Int) = 0) then some (D.v (V.bool false), [])
                       else 
                        ((decI (List.map iC zs)).bind fun x_2 => 
                          (bif !decide ([] = x_2) then some (D.v (V.bool false), [])
                           else 
                            (bif !decide (0 = n) then some (D.v (V.bool false), [])
                             else 
                              (bif decide (n < Int.ofNat (List.map iC zs).length) then 
                                (bif room 8 (List.map iC zs).length then 
                                  ((decI (window (List.map iC zs) 0 (List.map iC zs).length)).bind fun x_3 => 
                                    (bif s.size.ble 1000 && x_3.length.ble 64 then 
                                      (bif decide (smpE x_3 (IntKind.i64.wrap (n + (1 : Int))) = (0 : Int)) then 
                                        (bif decide (IntKind.i64.wrap (n + (1 : Int)) = (0 : Int)) then ((lpC 16 0 (lb MZ y5 lpC 5 0 16) [(1, D.sl t 1 (List.map iC zs)), (6, D.v (V.bool false)), (7, D.v V.nils), (11, D.v V.nils), (82, D.v V.nils), (83, D.v (V.int IntKind.i64 ((0 : Int)))), (84, D.v (V.int IntKind.i64 ((0 : Int))))] [Row.arr 1 0 (List.map iC zs), Row.arr 1 0 (List.map iC zs), Row.arr 1 0 (List.map iC zs)]).bind (contF MZ y5 lpC 5 0 16))
                                         else ((lpC 16 0 (lb MZ y5 lpC 5 0 16) [(1, D.sl t 1 (List.map iC zs)), (6, D.v (V.bool false)), (7, D.v V.nils), (11, D.rs ([Row.arr 1 0 (List.map iC zs), Row.arr 1 0 (List.map iC zs), Row.arr 1 0 (List.map iC zs)].length + (0 - 0)) ((IntKind.i64.wrap (n + 1)).toNat - 1) 1 0 (IntKind.i64.wrap (n + 1)).toNat), (82, D.v V.nils), (83, D.v (V.int IntKind.i64 ((0 : Int)))), (84, D.v (V.int IntKind.i64 ((0 : Int))))] [Row.arr 1 0 (List.map iC zs), Row.arr 1 0 (List.map iC zs), Row.arr 1 0 (List.map iC zs), Row.arr 1 ((IntKind.i64.wrap (n + 1)).toNat - 1) (List.map iC (smp (fP s) x_3 (IntKind.i64.wrap (n + 1)).toNat))]).bind (contF MZ y5 lpC 5 0 16)))
                                       else 
                                        (bif !decide (smpE x_3 (IntKind.i64.wrap (n + 1)) = 0) then some (D.v (V.bool false), [])
                                         else ((lpC 16 0 (lb MZ y5 lpC 5 0 16) [(1, D.sl t 1 (List.map iC zs)), (6, D.v (V.bool false)), (7, D.v V.nils), (11, D.v V.nils), (82, D.v V.nils), (83, D.v (V.int IntKind.i64 ((0 : Int)))), (84, D.v (V.int IntKind.i64 ((0 : Int))))] [Row.arr 1 0 (List.map iC zs), Row.arr 1 0 (List.map iC zs), Row.arr 1 0 (List.map iC zs)]).bind (contF MZ y5 lpC 5 0 16))))
                                     else none))
                                 else none)
                               else ((lpC 16 0 (lb MZ y5 lpC 5 0 16) [(1, D.sl t 1 (List.map iC zs)), (6, D.v (V.bool false)), (7, D.v V.nils), (11, D.sl t 1 (List.map iC zs)), (82, D.v V.nils), (83, D.v (V.int IntKind.i64 ((0 : Int)))), (84, D.v (V.int IntKind.i64 ((0 : Int))))] [Row.arr 1 0 (List.map iC zs), Row.arr 1 0 (List.map iC zs)]).bind (contF MZ y5 lpC 5 0 16))))))))
                   else none))
               else none)
             else 
              (bif room 8 (List.map iC zs).length then 
                ((decI (window (List.map iC zs) 0 (List.map iC zs).length)).bind fun x_1 => 
                  (bif s.size.ble 1000 && x_1.length.ble 64 then 
                    (bif decide (smpE x_1 (Int.ofNat (List.map iC zs).length) = (0 : Int)) then 
                      (bif decide (Int.ofNat (List.map iC zs).length = (0 : Int)) then 
                        ((decI (List.map iC zs)).bind fun x_2 => 
                          (bif !decide ([] = x_2) then some (D.v (V.bool false), [])
                           else 
                            (bif !decide ((↑n.toNat : Int) = n) then some (D.v (V.bool false), [])
                             else 
                              (bif decide (n < Int.ofNat (List.map iC zs).length) then 
                                (bif room 8 (List.map iC zs).length then 
                                  ((decI (window (List.map iC zs) 0 (List.map iC zs).length)).bind fun x_3 => 
                                    (bif s.size.ble 1000 && x_3.length.ble 64 then 
                                      (bif decide (smpE x_3 (IntKind.i64.wrap (n + (1 : Int))) = (0 : Int)) then 
                                        (bif decide (IntKind.i64.wrap (n + (1 : Int)) = (0 : Int)) then ((lpC 16 0 (lb MZ y5 lpC 5 0 16) [(1, D.sl t 1 (List.map iC zs)), (6, D.v (V.bool false)), (7, D.rs ([Row.arr 1 0 (List.map iC zs)].length + (0 - 0)) (n.toNat - 1) 1 0 n.toNat), (11, D.v V.nils), (82, D.rs ([Row.arr 1 0 (List.map iC zs)].length + (0 - 0)) (n.toNat - 1) 1 0 n.toNat), (83, D.v (V.int IntKind.i64 (Int.ofNat n.toNat))), (84, D.v (V.int IntKind.i64 ((0 : Int))))] [Row.arr 1 0 (List.map iC zs), Row.arr 1 (n.toNat - 1) (List.map iC (smp (fP s) x n.toNat)), Row.arr 1 0 (List.map iC zs), Row.arr 1 0 (List.map iC zs)]).bind (contF MZ y5 lpC 5 0 16))
                                         else ((lpC 16 0 (lb MZ y5 lpC 5 0 16) [(1, D.sl t 1 (List.map iC zs)), (6, D.v (V.bool false)), (7, D.rs ([Row.arr 1 0 (List.map iC zs)].length + (0 - 0)) (n.toNat - 1) 1 0 n.toNat), (11, D.rs ([Row.arr 1 0 (List.map iC zs), Row.arr 1 (n.toNat - 1) (List.map iC (smp (fP s) x n.toNat)), Row.arr 1 0 (List.map iC zs), Row.arr 1 0 (List.map iC zs)].length + (0 - 0)) ((IntKind.i64.wrap (n + 1)).toNat - 1) 1 0 (IntKind.i64.wrap (n + 1)).toNat), (82, D.rs ([Row.arr 1 0 (List.map iC zs)].length + (0 - 0)) (n.toNat - 1) 1 0 n.toNat), (83, D.v (V.int IntKind.i64 (Int.ofNat n.toNat))), (84, D.v (V.int IntKind.i64 ((0 : Int))))] [Row.arr 1 0 (List.map iC zs), Row.arr 1 (n.toNat - 1) (List.map iC (smp (fP s) x n.toNat)), Row.arr 1 0 (List.map iC zs), Row.arr 1 0 (List.map iC zs), Row.arr 1 ((IntKind.i64.wrap (n + 1)).toNat - 1) (List.map iC (smp (fP s) x_3 (IntKind.i64.wrap (n + 1)).toNat))]).bind (contF MZ y5 lpC 5 0 16)))
                                       else 
                                        (bif !decide (smpE x_3 (IntKind.i64.wrap (n + 1)) = 0) then some (D.v (V.bool false), [])
                                         else ((lpC 16 0 (lb MZ y5 lpC 5 0 16) [(1, D.sl t 1 (List.map iC zs)), (6, D.v (V.bool false)), (7, D.rs ([Row.arr 1 0 (List.map iC zs)].length + (0 - 0)) (n.toNat - 1) 1 0 n.toNat), (11, D.v V.nils), (82, D.rs ([Row.arr 1 0 (List.map iC zs)].length + (0 - 0)) (n.toNat - 1) 1 0 n.toNat), (83, D.v (V.int IntKind.i64 (Int.ofNat n.toNat))), (84, D.v (V.int IntKind.i64 ((0 : Int))))] [Row.arr 1 0 (List.map iC zs), Row.arr 1 (n.toNat - 1) (List.map iC (smp (fP s) x n.toNat)), Row.arr 1 0 (List.map iC zs), Row.arr 1 0 (List.map iC zs)]).bind (contF MZ y5 lpC 5 0 16))))
                                     else none))
                                 else none)
                               else ((lpC 16 0 (lb MZ y5 lpC 5 0 16) [(1, D.sl t 1 (List.map iC zs)), (6, D.v (V.bool false)), (7, D.rs ([Row.arr 1 0 (List.map iC zs)].length + (0 - 0)) (n.toNat - 1) 1 0 n.toNat), (11, D.sl t 1 (List.map iC zs)), (82, D.rs ([Row.arr 1 0 (List.map iC zs)].length + (0 - 0)) (n.toNat - 1) 1 0 n.toNat), (83, D.v (V.int IntKind.i64 (Int.ofNat n.toNat))), (84, D.v (V.int IntKind.i64 ((0 : Int))))] [Row.arr 1 0 (List.map iC zs), Row.arr 1 (n.toNat - 1) (List.map iC (smp (fP s) x n.toNat)), Row.arr 1 0 (List.map iC zs)]).bind (contF MZ y5 lpC 5 0 16))))))
                       else 
                        (bif decide ((Int.ofNat (List.map iC zs).length).toNat - 1 = (Int.ofNat (List.map iC zs).length).toNat - 1) then 
                          ((decI (window (List.map iC (smp (fP s) x_1 (Int.ofNat (List.map iC zs).length).toNat)) 0 (Int.ofNat (List.map iC zs).length).toNat)).bind fun x_2 => 
                            ((decI (List.map iC zs)).bind fun x_3 => 
                              (bif x_2.length.ble 1000000 then 
                                (bif !decide (x_2 = x_3) then some (D.v (V.bool false), [])
                                 else 
                                  (bif !decide ((↑n.toNat : Int) = n) then some (D.v (V.bool false), [])
                                   else 
                                    (bif decide (n < Int.ofNat (List.map iC zs).length) then 
                                      (bif room 8 (List.map iC zs).length then 
                                        ((decI (window (List.map iC zs) 0 (List.map iC zs).length)).bind fun x_4 => 
                                          (bif s.size.ble 1000 && x_4.length.ble 64 then 
                                            (bif decide (smpE x_4 (IntKind.i64.wrap (n + (1 : Int))) = (0 : Int)) then 
                                              (bif decide (IntKind.i64.wrap (n + (1 : Int)) = (0 : Int)) then ((lpC 16 0 (lb MZ y5 lpC 5 0 16) [(1, D.sl t 1 (List.map iC zs)), (6, D.v (V.bool false)), (7, D.rs ([Row.arr 1 0 (List.map iC zs)].length + (0 - 0)) (n.toNat - 1) 1 0 n.toNat), (11, D.v V.nils), (82, D.rs ([Row.arr 1 0 (List.map iC zs)].length + (0 - 0)) (n.toNat - 1) 1 0 n.toNat), (83, D.v (V.int IntKind.i64 (Int.ofNat n.toNat))), (84, D.v (V.int IntKind.i64 ((0 : Int))))] [Row.arr 1 0 (List.map iC zs), Row.arr 1 (n.toNat - 1) (List.map iC (smp (fP s) x n.toNat)), Row.arr 1 0 (List.map iC zs), Row.arr 1 ((↑(List.map iC zs).length : Int).toNat - 1) (List.map iC (smp (fP s) x_1 (↑(List.map iC zs).length : Int).toNat)), Row.arr 1 0 (List.map iC zs)]).bind (contF MZ y5 lpC 5 0 16))
                                               else ((lpC 16 0 (lb MZ y5 lpC 5 0 16) [(1, D.sl t 1 (List.map iC zs)), (6, D.v (V.bool false)), (7, D.rs ([Row.arr 1 0 (List.map iC zs)].length + (0 - 0)) (n.toNat - 1) 1 0 n.toNat), (11, D.rs ([Row.arr 1 0 (List.map iC zs), Row.arr 1 (n.toNat - 1) (List.map iC (smp (fP s) x n.toNat)), Row.arr 1 0 (List.map iC zs), Row.arr 1 ((↑(List.map iC zs).length : Int).toNat - 1) (List.map iC (smp (fP s) x_1 (↑(List.map iC zs).length : Int).toNat)), Row.arr 1 0 (List.map iC zs)].length + (0 - 0)) ((IntKind.i64.wrap (n + 1)).toNat - 1) 1 0 (IntKind.i64.wrap (n + 1)).toNat), (82, D.rs ([Row.arr 1 0 (List.map iC zs)].length + (0 - 0)) (n.toNat - 1) 1 0 n.toNat), (83, D.v (V.int IntKind.i64 (Int.ofNat n.toNat))), (84, D.v (V.int IntKind.i64 ((0 : Int))))] [Row.arr 1 0 (List.map iC zs), Row.arr 1 (n.toNat - 1) (List.map iC (smp (fP s) x n.toNat)), Row.arr 1 0 (List.map iC zs), Row.arr 1 ((↑(List.map iC zs).length : Int).toNat - 1) (List.map iC (smp (fP s) x_1 (↑(List.map iC zs).length : Int).toNat)), Row.arr 1 0 (List.map iC zs), Row.arr 1 ((IntKind.i64.wrap (n + 1)).toNat - 1) (List.map iC (smp (fP s) x_4 (IntKind.i64.wrap (n + 1)).toNat))]).bind (contF MZ y5 lpC 5 0 16)))
                                             else 
                                              (bif !decide (smpE x_4 (IntKind.i64.wrap (n + 1)) = 0) then some (D.v (V.bool false), [])
                                               else ((lpC 16 0 (lb MZ y5 lpC 5 0 16) [(1, D.sl t 1 (List.map iC zs)), (6, D.v (V.bool false)), (7, D.rs ([Row.arr 1 0 (List.map iC zs)].length + (0 - 0)) (n.toNat - 1) 1 0 n.toNat), (11, D.v V.nils), (82, D.rs ([Row.arr 1 0 (List.map iC zs)].length + (0 - 0)) (n.toNat - 1) 1 0 n.toNat), (83, D.v (V.int IntKind.i64 (Int.ofNat n.toNat))), (84, D.v (V.int IntKind.i64 ((0 : Int))))] [Row.arr 1 0 (List.map iC zs), Row.arr 1 (n.toNat - 1) (List.map iC (smp (fP s) x n.toNat)), Row.arr 1 0 (List.map iC zs), Row.arr 1 ((↑(List.map iC zs).length : Int).toNat - 1) (List.map iC (smp (fP s) x_1 (↑(List.map iC zs).length : Int).toNat)), Row.arr 1 0 (List.map iC zs)]).bind (contF MZ y5 lpC 5 0 16))))
                                           else none))
                                       else none)
                                     else ((lpC 16 0 (lb MZ y5 lpC 5 0 16) [(1, D.sl t 1 (List.map iC zs)), (6, D.v (V.bool false)), (7, D.rs ([Row.arr 1 0 (List.map iC zs)].length + (0 - 0)) (n.toNat - 1) 1 0 n.toNat), (11, D.sl t 1 (List.map iC zs)), (82, D.rs ([Row.arr 1 0 (List.map iC zs)].length + (0 - 0)) (n.toNat - 1) 1 0 n.toNat), (83, D.v (V.int IntKind.i64 (Int.ofNat n.toNat))), (84, D.v (V.int IntKind.i64 ((0 : Int))))] [Row.arr 1 0 (List.map iC zs), Row.arr 1 (n.toNat - 1) (List.map iC (smp (fP s) x n.toNat)), Row.arr 1 0 (List.map iC zs), Row.arr 1 ((↑(List.map iC zs).length : Int).toNat - 1) (List.map iC (smp (fP s) x_1 (↑(List.map iC zs).length : Int).toNat))]).bind (contF MZ y5 lpC 5 0 16)))))
                               else none)))
                         else none))
                     else 
                      (bif !decide (smpE x_1 (↑(List.map iC zs).length : Int) = 0) then some (D.v (V.bool false), [])
                       else 
                        ((decI (List.map iC zs)).bind fun x_2 => 
                          (bif !decide ([] = x_2) then some (D.v (V.bool false), [])
                           else 
                            (bif !decide ((↑n.toNat : Int) = n) then some (D.v (V.bool false), [])
                             else 
                              (bif decide (n < Int.ofNat (List.map iC zs).length) then 
                                (bif room 8 (List.map iC zs).length then 
                                  ((decI (window (List.map iC zs) 0 (List.map iC zs).length)).bind fun x_3 => 
                                    (bif s.size.ble 1000 && x_3.length.ble 64 then 
                                      (bif decide (smpE x_3 (IntKind.i64.wrap (n + (1 : Int))) = (0 : Int)) then 
                                        (bif decide (IntKind.i64.wrap (n + (1 : Int)) = (0 : Int)) then ((lpC 16 0 (lb MZ y5 lpC 5 0 16) [(1, D.sl t 1 (List.map iC zs)), (6, D.v (V.bool false)), (7, D.rs ([Row.arr 1 0 (List.map iC zs)].length + (0 - 0)) (n.toNat - 1) 1 0 n.toNat), (11, D.v V.nils), (82, D.rs ([Row.arr 1 0 (List.map iC zs)].length + (0 - 0)) (n.toNat - 1) 1 0 n.toNat), (83, D.v (V.int IntKind.i64 (Int.ofNat n.toNat))), (84, D.v (V.int IntKind.i64 ((0 : Int))))] [Row.arr 1 0 (List.map iC zs), Row.arr 1 (n.toNat - 1) (List.map iC (smp (fP s) x n.toNat)), Row.arr 1 0 (List.map iC zs), Row.arr 1 0 (List.map iC zs)]).bind (contF MZ y5 lpC 5 0 16))
                                         else ((lpC 16 0 (lb MZ y5 lpC 5 0 16) [(1, D.sl t 1 (List.map iC zs)), (6, D.v (V.bool false)), (7, D.rs ([Row.arr 1 0 (List.map iC zs)].length + (0 - 0)) (n.toNat - 1) 1 0 n.toNat), (11, D.rs ([Row.arr 1 0 (List.map iC zs), Row.arr 1 (n.toNat - 1) (List.map iC (smp (fP s) x n.toNat)), Row.arr 1 0 (List.map iC zs), Row.arr 1 0 (List.map iC zs)].length + (0 - 0)) ((IntKind.i64.wrap (n + 1)).toNat - 1) 1 0 (IntKind.i64.wrap (n + 1)).toNat), (82, D.rs ([Row.arr 1 0 (List.map iC zs)].length + (0 - 0)) (n.toNat - 1) 1 0 n.toNat), (83, D.v (V.int IntKind.i64 (Int.ofNat n.toNat))), (84, D.v (V.int IntKind.i64 ((0 : Int))))] [Row.arr 1 0 (List.map iC zs), Row.arr 1 (n.toNat - 1) (List.map iC (smp (fP s) x n.toNat)), Row.arr 1 0 (List.map iC zs), Row.arr 1 0 (List.map iC zs), Row.arr 1 ((IntKind.i64.wrap (n + 1)).toNat - 1) (List.map iC (smp (fP s) x_3 (IntKind.i64.wrap (n + 1)).toNat))]).bind (contF MZ y5 lpC 5 0 16)))
                                       else 
                                        (bif !decide (smpE x_3 (IntKind.i64.wrap (n + 1)) = 0) then some (D.v (V.bool false), [])
                                         else ((lpC 16 0 (lb MZ y5 lpC 5 0 16) [(1, D.sl t 1 (List.map iC zs)), (6, D.v (V.bool false)), (7, D.rs ([Row.arr 1 0 (List.map iC zs)].length + (0 - 0)) (n.toNat - 1) 1 0 n.toNat), (11, D.v V.nils), (82, D.rs ([Row.arr 1 0 (List.map iC zs)].length + (0 - 0)) (n.toNat - 1) 1 0 n.toNat), (83, D.v (V.int IntKind.i64 (Int.ofNat n.toNat))), (84, D.v (V.int IntKind.i64 ((0 : Int))))] [Row.arr 1 0 (List.map iC zs), Row.arr 1 (n.toNat - 1) (List.map iC (smp (fP s) x n.toNat)), Row.arr 1 0 (List.map iC zs), Row.arr 1 0 (List.map iC zs)]).bind (contF MZ y5 lpC 5 0 16))))
                                     else none))
                                 else none)
                               else ((lpC 16 0 (lb MZ y5 lpC 5 0 16) [(1, D.sl t 1 (List.map iC zs)), (6, D.v (V.bool false)), (7, D.rs ([Row.arr 1 0 (List.map iC zs)].length + (0 - 0)) (n.toNat - 1) 1 0 n.toNat), (11, D.sl t 1 (List.map iC zs)), (82, D.rs ([Row.arr 1 0 (List.map iC zs)].length + (0 - 0)) (n.toNat - 1) 1 0 n.toNat), (83, D.v (V.int IntKind.i64 (Int.ofNat n.toNat))), (84, D.v (V.int IntKind.i64 ((0 : Int))))] [Row.arr 1 0 (List.map iC zs), Row.arr 1 (n.toNat - 1) (List.map iC (smp (fP s) x n.toNat)), Row.arr 1 0 (List.map iC zs)]).bind (contF MZ y5 lpC 5 0 16))))))))
                   else none))
               else none))
           else 
            (bif !decide (smpE x n = 0) then some (D.v (V.bool (decide (0 = 0))), [])
             else 
              (bif room 8 (List.map iC zs).length then 
                ((decI (window (List.map iC zs) 0 (List.map iC zs).length)).bind fun x_1 => 
                  (bif s.size.ble 1000 && x_1.length.ble 64 then 
                    (bif decide (smpE x_1 (Int.ofNat (List.map iC zs).length) = (0 : Int)) then 
                      (bif decide (Int.ofNat (List.map iC zs).length = (0 : Int)) then 
                        ((decI (List.map iC zs)).bind fun x_2 => 
                          (bif !decide ([] = x_2) then some (D.v (V.bool false), [])
                           else 
                            (bif !decide (0 = n) then some (D.v (V.bool false), [])
                             else 
                              (bif decide (n < Int.ofNat (List.map iC zs).length) then 
                                (bif room 8 (List.map iC zs).length then 
                                  ((decI (window (List.map iC zs) 0 (List.map iC zs).length)).bind fun x_3 => 
                                    (bif s.size.ble 1000 && x_3.length.ble 64 then 
                                      (bif decide (smpE x_3 (IntKind.i64.wrap (n + (1 : Int))) = (0 : Int)) then 
                                        (bif decide (IntKind.i64.wrap (n + (1 : Int)) = (0 : Int)) then ((lpC 16 0 (lb MZ y5 lpC 5 0 16) [(1, D.sl t 1 (List.map iC zs)), (6, D.v (V.bool false)), (7, D.v V.nils), (11, D.v V.nils), (82, D.v V.nils), (83, D.v (V.int IntKind.i64 ((0 : Int)))), (84, D.v (V.int IntKind.i64 ((0 : Int))))] [Row.arr 1 0 (List.map iC zs), Row.arr 1 0 (List.map iC zs), Row.arr 1 0 (List.map iC zs)]).bind (contF MZ y5 lpC 5 0 16))
                                         else ((lpC 16 0 (lb MZ y5 lpC 5 0 16) [(1, D.sl t 1 (List.map iC zs)), (6, D.v (V.bool false)), (7, D.v V.nils), (11, D.rs ([Row.arr 1 0 (List.map iC zs), Row.arr 1 0 (List.map iC zs), Row.arr 1 0 (List.map iC zs)].length + (0 - 0)) ((IntKind.i64.wrap (n + 1)).toNat - 1) 1 0 (IntKind.i64.wrap (n + 1)).toNat), (82, D.v V.nils), (83, D.v (V.int IntKind.i64 ((0 : Int)))), (84, D.v (V.int IntKind.i64 ((0 : Int))))] [Row.arr 1 0 (List.map iC zs), Row.arr 1 0 (List.map iC zs), Row.arr 1 0 (List.map iC zs), Row.arr 1 ((IntKind.i64.wrap (n + 1)).toNat - 1) (List.map iC (smp (fP s) x_3 (IntKind.i64.wrap (n + 1)).toNat))]).bind (contF MZ y5 lpC 5 0 16)))
                                       else 
                                        (bif !decide (smpE x_3 (IntKind.i64.wrap (n + 1)) = 0) then some (D.v (V.bool false), [])
                                         else ((lpC 16 0 (lb MZ y5 lpC 5 0 16) [(1, D.sl t 1 (List.map iC zs)), (6, D.v (V.bool false)), (7, D.v V.nils), (11, D.v V.nils), (82, D.v V.nils), (83, D.v (V.int IntKind.i64 ((0 : Int)))), (84, D.v (V.int IntKind.i64 ((0 : Int))))] [Row.arr 1 0 (List.map iC zs), Row.arr 1 0 (List.map iC zs), Row.arr 1 0 (List.map iC zs)]).bind (contF MZ y5 lpC 5 0 16))))
                                     else none))
                                 else none)
                               else ((lpC 16 0 (lb MZ y5 lpC 5 0 16) [(1, D.sl t 1 (List.map iC zs)), (6, D.v (V.bool false)), (7, D.v V.nils), (11, D.sl t 1 (List.map iC zs)), (82, D.v V.nils), (83, D.v (V.int IntKind.i64 ((0 : Int)))), (84, D.v (V.int IntKind.i64 ((0 : Int))))] [Row.arr 1 0 (List.map iC zs), Row.arr 1 0 (List.map iC zs)]).bind (contF MZ y5 lpC 5 0 16))))))
                       else 
                        (bif decide ((Int.ofNat (List.map iC zs).length).toNat - 1 = (Int.ofNat (List.map iC zs).length).toNat - 1) then 
                          ((decI (window (List.map iC (smp (fP s) x_1 (Int.ofNat (List.map iC zs).length).toNat)) 0 (Int.ofNat (List.map iC zs).length).toNat)).bind fun x_2 => 
                            ((decI (List.map iC zs)).bind fun x_3 => 
                              (bif x_2.length.ble 1000000 then 
                                (bif !decide (x_2 = x_3) then some (D.v (V.bool false), [])
                                 else 
                                  (bif !decide (0 = n) then some (D.v (V.bool false), [])
                                   else 
                                    (bif decide (n < Int.ofNat (List.map iC zs).length) then 
                                      (bif room 8 (List.map iC zs).length then 
                                        ((decI (window (List.map iC zs) 0 (List.map iC zs).length)).bind fun x_4 => 
                                          (bif s.size.ble 1000 && x_4.length.ble 64 then 
                                            (bif decide (smpE x_4 (IntKind.i64.wrap (n + (1 : Int))) = (0 : Int)) then 
                                              (bif decide (IntKind.i64.wrap (n + (1 : Int)) = (0 : Int)) then ((lpC 16 0 (lb MZ y5 lpC 5 0 16) [(1, D.sl t 1 (List.map iC zs)), (6, D.v (V.bool false)), (7, D.v V.nils), (11, D.v V.nils), (82, D.v V.nils), (83, D.v (V.int IntKind.i64 ((0 : Int)))), (84, D.v (V.int IntKind.i64 ((0 : Int))))] [Row.arr 1 0 (List.map iC zs), Row.arr 1 0 (List.map iC zs), Row.arr 1 ((↑(List.map iC zs).length : Int).toNat - 1) (List.map iC (smp (fP s) x_1 (↑(List.map iC zs).length : Int).toNat)), Row.arr 1 0 (List.map iC zs)]).bind (contF MZ y5 lpC 5 0 16))
                                               else ((lpC 16 0 (lb MZ y5 lpC 5 0 16) [(1, D.sl t 1 (List.map iC zs)), (6, D.v (V.bool false)), (7, D.v V.nils), (11, D.rs ([Row.arr 1 0 (List.map iC zs), Row.arr 1 0 (List.map iC zs), Row.arr 1 ((↑(List.map iC zs).length : Int).toNat - 1) (List.map iC (smp (fP s) x_1 (↑(List.map iC zs).length : Int).toNat)), Row.arr 1 0 (List.map iC zs)].length + (0 - 0)) ((IntKind.i64.wrap (n + 1)).toNat - 1) 1 0 (IntKind.i64.wrap (n + 1)).toNat), (82, D.v V.nils), (83, D.v (V.int IntKind.i64 ((0 : Int)))), (84, D.v (V.int IntKind.i64 ((0 : Int))))] [Row.arr 1 0 (List.map iC zs), Row.arr 1 0 (List.map iC zs), Row.arr 1 ((↑(List.map iC zs).length : Int).toNat - 1) (List.map iC (smp (fP s) x_1 (↑(List.map iC zs).length : Int).toNat)), Row.arr 1 0 (List.map iC zs), Row.arr 1 ((IntKind.i64.wrap (n + 1)).toNat - 1) (List.map iC (smp (fP s) x_4 (IntKind.i64.wrap (n + 1)).toNat))]).bind (contF MZ y5 lpC 5 0 16)))
                                             else 
                                              (bif !decide (smpE x_4 (IntKind.i64.wrap (n + 1)) = 0) then some (D.v (V.bool false), [])
                                               else ((lpC 16 0 (lb MZ y5 lpC 5 0 16) [(1, D.sl t 1 (List.map iC zs)), (6, D.v (V.bool false)), (7, D.v V.nils), (11, D.v V.nils), (82, D.v V.nils), (83, D.v (V.int IntKind.i64 ((0 : Int)))), (84, D.v (V.int IntKind.i64 ((0 : Int))))] [Row.arr 1 0 (List.map iC zs), Row.arr 1 0 (List.map iC zs), Row.arr 1 ((↑(List.map iC zs).length : Int).toNat - 1) (List.map iC (smp (fP s) x_1 (↑(List.map iC zs).length : Int).toNat)), Row.arr 1 0 (List.map iC zs)]).bind (contF MZ y5 lpC 5 0 16))))
                                           else none))
                                       else none)
                                     else ((lpC 16 0 (lb MZ y5 lpC 5 0 16) [(1, D.sl t 1 (List.map iC zs)), (6, D.v (V.bool false)), (7, D.v V.nils), (11, D.sl t 1 (List.map iC zs)), (82, D.v V.nils), (83, D.v (V.int IntKind.i64 ((0 : Int)))), (84, D.v (V.int IntKind.i64 ((0 : Int))))] [Row.arr 1 0 (List.map iC zs), Row.arr 1 0 (List.map iC zs), Row.arr 1 ((↑(List.map iC zs).length : Int).toNat - 1) (List.map iC (smp (fP s) x_1 (↑(List.map iC zs).length : Int).toNat))]).bind (contF MZ y5 lpC 5 0 16)))))
                               else none)))
                         else none))
                     else 
                      (bif !decide (smpE x_1 (↑(List.map iC zs).length : Int) = 0) then some (D.v (V.bool false), [])
                       else 
                        ((decI (List.map iC zs)).bind fun x_2 => 
                          (bif !decide ([] = x_2) then some (D.v (V.bool false), [])
                           else 
                            (bif !decide (0 = n) then some (D.v (V.bool false), [])
                             else 
                              (bif decide (n < Int.ofNat (List.map iC zs).length) then 
                                (bif room 8 (List.map iC zs).length then 
                                  ((decI (window (List.map iC zs) 0 (List.map iC zs).length)).bind fun x_3 => 
                                    (bif s.size.ble 1000 && x_3.length.ble 64 then 
                                      (bif decide (smpE x_3 (IntKind.i64.wrap (n + (1 : Int))) = (0 : Int)) then 
                                        (bif decide (IntKind.i64.wrap (n + (1 : Int)) = (0 : Int)) then ((lpC 16 0 (lb MZ y5 lpC 5 0 16) [(1, D.sl t 1 (List.map iC zs)), (6, D.v (V.bool false)), (7, D.v V.nils), (11, D.v V.nils), (82, D.v V.nils), (83, D.v (V.int IntKind.i64 ((0 : Int)))), (84, D.v (V.int IntKind.i64 ((0 : Int))))] [Row.arr 1 0 (List.map iC zs), Row.arr 1 0 (List.map iC zs), Row.arr 1 0 (List.map iC zs)]).bind (contF MZ y5 lpC 5 0 16))
                                         else ((lpC 16 0 (lb MZ y5 lpC 5 0 16) [(1, D.sl t 1 (List.map iC zs)), (6, D.v (V.bool false)), (7, D.v V.nils), (11, D.rs ([Row.arr 1 0 (List.map iC zs), Row.arr 1 0 (List.map iC zs), Row.arr 1 0 (List.map iC zs)].length + (0 - 0)) ((IntKind.i64.wrap (n + 1)).toNat - 1) 1 0 (IntKind.i64.wrap (n + 1)).toNat), (82, D.v V.nils), (83, D.v (V.int IntKind.i64 ((0 : Int)))), (84, D.v (V.int IntKind.i64 ((0 : Int))))] [Row.arr 1 0 (List.map iC zs), Row.arr 1 0 (List.map iC zs), Row.arr 1 0 (List.map iC zs), Row.arr 1 ((IntKind.i64.wrap (n + 1)).toNat - 1) (List.map iC (smp (fP s) x_3 (IntKind.i64.wrap (n + 1)).toNat))]).bind (contF MZ y5 lpC 5 0 16)))
                                       else 
                                        (bif !decide (smpE x_3 (IntKind.i64.wrap (n + 1)) = 0) then some (D.v (V.bool false), [])
                                         else ((lpC 16 0 (lb MZ y5 lpC 5 0 16) [(1, D.sl t 1 (List.map iC zs)), (6, D.v (V.bool false)), (7, D.v V.nils), (11, D.v V.nils), (82, D.v V.nils), (83, D.v (V.int IntKind.i64 ((0 : Int)))), (84, D.v (V.int IntKind.i64 ((0 : Int))))] [Row.arr 1 0 (List.map iC zs), Row.arr 1 0 (List.map iC zs), Row.arr 1 0 (List.map iC zs)]).bind (contF MZ y5 lpC 5 0 16))))
                                     else none))
                                 else none)
                               else ((lpC 16 0 (lb MZ y5 lpC 5 0 16) [(1, D.sl t 1 (List.map iC zs)), (6, D.v (V.bool false)), (7, D.v V.nils), (11, D.sl t 1 (List.map iC zs)), (82, D.v V.nils), (83, D.v (V.int IntKind.i64 ((0 : Int)))), (84, D.v (V.int IntKind.i64 ((0 : Int))))] [Row.arr 1 0 (List.map iC zs), Row.arr 1 0 (List.map iC zs)]).bind (contF MZ y5 lpC 5 0 16))))))))
                   else none))
               else none)))
         else none))
     else none))) := by kernel_rfl
end Go.Ab

/- The law's loop: its trees, with a longer sample (B) and without (C). -/
namespace Go.Ab
open Go Go.Proofs
set_option maxRecDepth 100000

abbrev e16 (t : Tag) (zs : List Int) (a more : D) (n i : Int) : Env := [(1, D.sl t 1 (List.map iC zs)), (6, D.v (V.bool false)), (7, a), (11, more), (82, a), (83, D.v (V.int IntKind.i64 n)), (84, D.v (V.int IntKind.i64 i))]

abbrev sB (aas ms : List Int) (g2 g5 : Nat) : Sto := [Row.arr 1 g2 (List.map iC aas), Row.arr 1 g5 (List.map iC ms)]

abbrev sC (aas : List Int) (g2 : Nat) : Sto := [Row.arr 1 g2 (List.map iC aas)]

theorem b16B (t : Tag) (zs aas ms : List Int) (g2 g5 na nm : Nat) (n i : Int) : lb MZ y5 lpC 5 0 16 (e16 t zs (.rs 0 g2 1 0 na) (.rs 1 g5 1 0 nm) n i) (sB aas ms g2 g5) = (bif decide (i < n) then 
  (bif decide (0 ≤ i) then 
    (bif decide (i.toNat < na) then 
      (bif decide (g2 = g2) then 
        (((List.map iC aas)[0 + i.toNat]?).bind fun x => 
          (bif decide (1 ≤ x.length) then 
            ((decE (List.take 1 x)).bind fun x_1 => 
              (bif decide (i > 0) then 
                (bif decide (0 ≤ IntKind.i64.wrap (i - 1)) then 
                  (bif decide ((IntKind.i64.wrap (i - 1)).toNat < na) then 
                    (bif decide (g2 = g2) then 
                      (((List.map iC aas)[0 + (IntKind.i64.wrap (i - 1)).toNat]?).bind fun x_2 => 
                        (bif decide (1 ≤ x_2.length) then 
                          ((decE (List.take 1 x_2)).bind fun x_3 => 
                            (bif decide (x_1 ≤ x_3) then some (Ex.ret, [(1, D.sl t 1 (List.map iC zs)), (6, D.v (V.bool false)), (7, D.rs 0 g2 1 0 na), (11, D.rs 1 g5 1 0 nm), (82, D.rs 0 g2 1 0 na), (83, D.v (V.int IntKind.i64 n)), (84, D.v (V.int IntKind.i64 i))], [Row.arr 1 g2 (List.map iC aas), Row.arr 1 g5 (List.map iC ms)])
                             else 
                              ((decI (List.map iC zs)).bind fun x_4 => 
                                (bif x_4.length.ble 1000000 then 
                                  (bif !x_4.any fun x => decide (x_1 = x) then some (Ex.ret, [(1, D.sl t 1 (List.map iC zs)), (6, D.v (V.bool false)), (7, D.rs 0 g2 1 0 na), (11, D.rs 1 g5 1 0 nm), (82, D.rs 0 g2 1 0 na), (83, D.v (V.int IntKind.i64 n)), (84, D.v (V.int IntKind.i64 i))], [Row.arr 1 g2 (List.map iC aas), Row.arr 1 g5 (List.map iC ms)])
                                   else 
                                    (bif decide (g5 = g5) then 
                                      ((decI (window (List.map iC ms) 0 nm)).bind fun x_5 => 
                                        (bif x_5.length.ble 1000000 then 
                                          (bif !x_5.any fun x => decide (x_1 = x) then some (Ex.ret, [(1, D.sl t 1 (List.map iC zs)), (6, D.v (V.bool false)), (7, D.rs 0 g2 1 0 na), (11, D.rs 1 g5 1 0 nm), (82, D.rs 0 g2 1 0 na), (83, D.v (V.int IntKind.i64 n)), (84, D.v (V.int IntKind.i64 i))], [Row.arr 1 g2 (List.map iC aas), Row.arr 1 g5 (List.map iC ms)])
                                           else some (Ex.normal, [(1, D.sl t 1 (List.map iC zs)), (6, D.v (V.bool false)), (7, D.rs 0 g2 1 0 na), (11, D.rs 1 g5 1 0 nm), (82, D.rs 0 g2 1 0 na), (83, D.v (V.int IntKind.i64 n)), (84, D.v (V.int IntKind.i64 (IntKind.i64.wrap (i + 1))))], [Row.arr 1 g2 (List.map iC aas), Row.arr 1 g5 (List.map iC ms)]))
                                         else none))
                                     else none))
                                 else none))))
                         else none))
                     else none)
                   else none)
                 else none)
               else 
                ((decI (List.map iC zs)).bind fun x_2 => 
                  (bif x_2.length.ble 1000000 then 
                    (bif !x_2.any fun x => decide (x_1 = x) then some (Ex.ret, [(1, D.sl t 1 (List.map iC zs)), (6, D.v (V.bool false)), (7, D.rs 0 g2 1 0 na), (11, D.rs 1 g5 1 0 nm), (82, D.rs 0 g2 1 0 na), (83, D.v (V.int IntKind.i64 n)), (84, D.v (V.int IntKind.i64 i))], [Row.arr 1 g2 (List.map iC aas), Row.arr 1 g5 (List.map iC ms)])
                     else 
                      (bif decide (g5 = g5) then 
                        ((decI (window (List.map iC ms) 0 nm)).bind fun x_3 => 
                          (bif x_3.length.ble 1000000 then 
                            (bif !x_3.any fun x => decide (x_1 = x) then some (Ex.ret, [(1, D.sl t 1 (List.map iC zs)), (6, D.v (V.bool false)), (7, D.rs 0 g2 1 0 na), (11, D.rs 1 g5 1 0 nm), (82, D.rs 0 g2 1 0 na), (83, D.v (V.int IntKind.i64 n)), (84, D.v (V.int IntKind.i64 i))], [Row.arr 1 g2 (List.map iC aas), Row.arr 1 g5 (List.map iC ms)])
                             else some (Ex.normal, [(1, D.sl t 1 (List.map iC zs)), (6, D.v (V.bool false)), (7, D.rs 0 g2 1 0 na), (11, D.rs 1 g5 1 0 nm), (82, D.rs 0 g2 1 0 na), (83, D.v (V.int IntKind.i64 n)), (84, D.v (V.int IntKind.i64 (IntKind.i64.wrap (i + 1))))], [Row.arr 1 g2 (List.map iC aas), Row.arr 1 g5 (List.map iC ms)]))
                           else none))
                       else none))
                   else none))))
           else none))
       else none)
     else none)
   else none)
 else some (Ex.exit 0, [(1, D.sl t 1 (List.map iC zs)), (6, D.v (V.bool false)), (7, D.rs 0 g2 1 0 na), (11, D.rs 1 g5 1 0 nm), (82, D.rs 0 g2 1 0 na), (83, D.v (V.int IntKind.i64 n)), (84, D.v (V.int IntKind.i64 i))], [Row.arr 1 g2 (List.map iC aas), Row.arr 1 g5 (List.map iC ms)])) := by kernel_rfl

theorem b16C (t : Tag) (zs aas : List Int) (g2 na : Nat) (n i : Int) : lb MZ y5 lpC 5 0 16 (e16 t zs (.rs 0 g2 1 0 na) (.sl t 1 (zs.map iC)) n i) (sC aas g2) = (bif decide (i < n) then 
  (bif decide (0 ≤ i) then 
    (bif decide (i.toNat < na) then 
      (bif decide (g2 = g2) then 
        (((List.map iC aas)[0 + i.toNat]?).bind fun x => 
          (bif decide (1 ≤ x.length) then 
            ((decE (List.take 1 x)).bind fun x_1 => 
              (bif decide (i > 0) then 
                (bif decide (0 ≤ IntKind.i64.wrap (i - 1)) then 
                  (bif decide ((IntKind.i64.wrap (i - 1)).toNat < na) then 
                    (bif decide (g2 = g2) then 
                      (((List.map iC aas)[0 + (IntKind.i64.wrap (i - 1)).toNat]?).bind fun x_2 => 
                        (bif decide (1 ≤ x_2.length) then 
                          ((decE (List.take 1 x_2)).bind fun x_3 => 
                            (bif decide (x_1 ≤ x_3) then some (Ex.ret, [(1, D.sl t 1 (List.map iC zs)), (6, D.v (V.bool false)), (7, D.rs 0 g2 1 0 na), (11, D.sl t 1 (List.map iC zs)), (82, D.rs 0 g2 1 0 na), (83, D.v (V.int IntKind.i64 n)), (84, D.v (V.int IntKind.i64 i))], [Row.arr 1 g2 (List.map iC aas)])
                             else 
                              ((decI (List.map iC zs)).bind fun x_4 => 
                                (bif x_4.length.ble 1000000 then 
                                  (bif !x_4.any fun x => decide (x_1 = x) then some (Ex.ret, [(1, D.sl t 1 (List.map iC zs)), (6, D.v (V.bool false)), (7, D.rs 0 g2 1 0 na), (11, D.sl t 1 (List.map iC zs)), (82, D.rs 0 g2 1 0 na), (83, D.v (V.int IntKind.i64 n)), (84, D.v (V.int IntKind.i64 i))], [Row.arr 1 g2 (List.map iC aas)])
                                   else 
                                    ((decI (List.map iC zs)).bind fun x_5 => 
                                      (bif x_5.length.ble 1000000 then 
                                        (bif !x_5.any fun x => decide (x_1 = x) then some (Ex.ret, [(1, D.sl t 1 (List.map iC zs)), (6, D.v (V.bool false)), (7, D.rs 0 g2 1 0 na), (11, D.sl t 1 (List.map iC zs)), (82, D.rs 0 g2 1 0 na), (83, D.v (V.int IntKind.i64 n)), (84, D.v (V.int IntKind.i64 i))], [Row.arr 1 g2 (List.map iC aas)])
                                         else some (Ex.normal, [(1, D.sl t 1 (List.map iC zs)), (6, D.v (V.bool false)), (7, D.rs 0 g2 1 0 na), (11, D.sl t 1 (List.map iC zs)), (82, D.rs 0 g2 1 0 na), (83, D.v (V.int IntKind.i64 n)), (84, D.v (V.int IntKind.i64 (IntKind.i64.wrap (i + 1))))], [Row.arr 1 g2 (List.map iC aas)]))
                                       else none)))
                                 else none))))
                         else none))
                     else none)
                   else none)
                 else none)
               else 
                ((decI (List.map iC zs)).bind fun x_2 => 
                  (bif x_2.length.ble 1000000 then 
                    (bif !x_2.any fun x => decide (x_1 = x) then some (Ex.ret, [(1, D.sl t 1 (List.map iC zs)), (6, D.v (V.bool false)), (7, D.rs 0 g2 1 0 na), (11, D.sl t 1 (List.map iC zs)), (82, D.rs 0 g2 1 0 na), (83, D.v (V.int IntKind.i64 n)), (84, D.v (V.int IntKind.i64 i))], [Row.arr 1 g2 (List.map iC aas)])
                     else 
                      ((decI (List.map iC zs)).bind fun x_3 => 
                        (bif x_3.length.ble 1000000 then 
                          (bif !x_3.any fun x => decide (x_1 = x) then some (Ex.ret, [(1, D.sl t 1 (List.map iC zs)), (6, D.v (V.bool false)), (7, D.rs 0 g2 1 0 na), (11, D.sl t 1 (List.map iC zs)), (82, D.rs 0 g2 1 0 na), (83, D.v (V.int IntKind.i64 n)), (84, D.v (V.int IntKind.i64 i))], [Row.arr 1 g2 (List.map iC aas)])
                           else some (Ex.normal, [(1, D.sl t 1 (List.map iC zs)), (6, D.v (V.bool false)), (7, D.rs 0 g2 1 0 na), (11, D.sl t 1 (List.map iC zs)), (82, D.rs 0 g2 1 0 na), (83, D.v (V.int IntKind.i64 n)), (84, D.v (V.int IntKind.i64 (IntKind.i64.wrap (i + 1))))], [Row.arr 1 g2 (List.map iC aas)]))
                         else none)))
                   else none))))
           else none))
       else none)
     else none)
   else none)
 else some (Ex.exit 0, [(1, D.sl t 1 (List.map iC zs)), (6, D.v (V.bool false)), (7, D.rs 0 g2 1 0 na), (11, D.sl t 1 (List.map iC zs)), (82, D.rs 0 g2 1 0 na), (83, D.v (V.int IntKind.i64 n)), (84, D.v (V.int IntKind.i64 i))], [Row.arr 1 g2 (List.map iC aas)])) := by kernel_rfl

theorem h16B0 (t : Tag) (zs aas us ms : List Int) (g2 g3 g5 na nm : Nat) (n i : Int) : head 0 (e16 t zs (.rs 1 g2 1 0 na) (.rs 5 g5 1 0 nm) n i) [Row.arr 1 0 (List.map iC zs), Row.arr 1 g2 (List.map iC aas), Row.arr 1 0 (List.map iC zs), Row.arr 1 g3 (List.map iC us), Row.arr 1 0 (List.map iC zs), Row.arr 1 g5 (List.map iC ms)] = some (e16 t zs (.rs 0 g2 1 0 na) (.rs 1 g5 1 0 nm) n i, sB aas ms g2 g5) := by kernel_rfl

theorem h16C0 (t : Tag) (zs aas us : List Int) (g2 g3 na : Nat) (n i : Int) : head 0 (e16 t zs (.rs 1 g2 1 0 na) (.sl t 1 (zs.map iC)) n i) [Row.arr 1 0 (List.map iC zs), Row.arr 1 g2 (List.map iC aas), Row.arr 1 0 (List.map iC zs), Row.arr 1 g3 (List.map iC us)] = some (e16 t zs (.rs 0 g2 1 0 na) (.sl t 1 (zs.map iC)) n i, sC aas g2) := by kernel_rfl

theorem h16B (t : Tag) (zs aas ms : List Int) (g2 g5 na nm : Nat) (n i : Int) : head 0 (e16 t zs (.rs 0 g2 1 0 na) (.rs 1 g5 1 0 nm) n i) (sB aas ms g2 g5) = some (e16 t zs (.rs 0 g2 1 0 na) (.rs 1 g5 1 0 nm) n i, sB aas ms g2 g5) := by kernel_rfl

theorem h16C (t : Tag) (zs aas : List Int) (g2 na : Nat) (n i : Int) : head 0 (e16 t zs (.rs 0 g2 1 0 na) (.sl t 1 (zs.map iC)) n i) (sC aas g2) = some (e16 t zs (.rs 0 g2 1 0 na) (.sl t 1 (zs.map iC)) n i, sC aas g2) := by kernel_rfl

theorem k16B (t : Tag) (zs aas ms : List Int) (g2 g5 na nm : Nat) (n i : Int) : contF MZ y5 lpC 5 0 16 (.exit 0, e16 t zs (.rs 0 g2 1 0 na) (.rs 1 g5 1 0 nm) n i, sB aas ms g2 g5) = some (D.v (V.bool true), []) := by kernel_rfl

theorem k16C (t : Tag) (zs aas : List Int) (g2 na : Nat) (n i : Int) : contF MZ y5 lpC 5 0 16 (.exit 0, e16 t zs (.rs 0 g2 1 0 na) (.sl t 1 (zs.map iC)) n i, sC aas g2) = some (D.v (V.bool true), []) := by kernel_rfl

end Go.Ab

/- The law's loop goes through. -/
namespace Go.Ab
open Go Go.Proofs
set_option maxRecDepth 100000
theorem any_of {zs : List Int} {x : Int} (h : x ∈ zs) : (zs.any fun y => decide (x = y)) = true := List.any_eq_true.2 ⟨x, h, by simp⟩
theorem window_map (zs : List Int) : window (zs.map iC) 0 zs.length = zs.map iC := by
  have := window_all (zs.map iC)
  rwa [List.length_map] at this
theorem asc_step {l : List Int} (h : asc l) {i : Nat} {x y : Int} (hx : l[i + 1]? = some x) (hy : l[i]? = some y) : ¬ x ≤ y := by
  obtain ⟨h1, rfl⟩ := List.getElem?_eq_some_iff.1 hx
  obtain ⟨h2, rfl⟩ := List.getElem?_eq_some_iff.1 hy
  have := List.pairwise_iff_getElem.1 h i (i + 1) h2 h1 (by omega)
  omega
theorem go16B (t : Tag) (zs aas ms : List Int) (g2 g5 : Nat) (hA : asc aas) (h1 : ∀ z ∈ aas, z ∈ zs) (h2 : ∀ z ∈ aas, z ∈ ms) (hz : zs.length ≤ 1000) (hm : ms.length ≤ 1000) (ha : aas.length ≤ 1000) (i : Nat) (hi : i < aas.length) :
    lb MZ y5 lpC 5 0 16 (e16 t zs (.rs 0 g2 1 0 aas.length) (.rs 1 g5 1 0 ms.length) (aas.length : Nat) (i : Nat)) (sB aas ms g2 g5) =
      some (.normal, e16 t zs (.rs 0 g2 1 0 aas.length) (.rs 1 g5 1 0 ms.length) (aas.length : Nat) ((i + 1 : Nat) : Int), sB aas ms g2 g5) := by
  have hx : aas[i]? = some aas[i] := List.getElem?_eq_getElem hi
  generalize aas[i] = x at hx
  have hmem : x ∈ aas := List.mem_of_getElem? hx
  have w2 : IntKind.i64.wrap ((i : Int) + 1) = ((i + 1 : Nat) : Int) := by rw [wrap_i64 (by omega) (by omega)]; omega
  have g1 : (aas.map iC)[0 + i]? = some (iC x) := by rw [Nat.zero_add, List.getElem?_map, hx]; rfl
  have hlen1 : ∀ z : Int, decide (1 ≤ (iC z).length) = true := fun z => rfl
  have hdec : ∀ z : Int, decE ((iC z).take 1) = some z := fun z => rfl
  have d0 : decide (((i : Nat) : Int) < (aas.length : Nat)) = true := decide_eq_true (by omega)
  have d1 : decide ((0 : Int) ≤ (i : Nat)) = true := decide_eq_true (by omega)
  have d2 : decide (i < aas.length) = true := decide_eq_true hi
  have z1 : zs.length.ble 1000000 = true := Nat.ble_eq_true_of_le (by omega)
  have m1 : ms.length.ble 1000000 = true := Nat.ble_eq_true_of_le (by omega)
  rw [b16B, w2, d0, d1, Int.toNat_natCast, d2, g1]
  simp only [cond_true, Option.bind_some, hlen1, hdec, decide_true, decI_map', z1, window_map, m1, any_of (h1 x hmem), any_of (h2 x hmem), Bool.not_true, cond_false]
  cases i with
  | zero =>
    rw [show decide (((0 : Nat) : Int) > 0) = false from rfl, cond_false]
  | succ i =>
    have hy : aas[i]? = some aas[i] := List.getElem?_eq_getElem (by omega)
    generalize aas[i] = y at hy
    have w1 : IntKind.i64.wrap (((i + 1 : Nat) : Int) - 1) = (i : Int) := by rw [wrap_i64 (by omega) (by omega)]; omega
    have g2' : (aas.map iC)[0 + i]? = some (iC y) := by rw [Nat.zero_add, List.getElem?_map, hy]; rfl
    rw [decide_eq_true (show ((i + 1 : Nat) : Int) > 0 by omega), w1, decide_eq_true (show (0 : Int) ≤ (i : Nat) by omega), Int.toNat_natCast, decide_eq_true (show i < aas.length by omega), g2']
    simp only [cond_true, Option.bind_some, hlen1, hdec, decide_eq_false (asc_step hA hx hy), cond_false]
theorem go16C (t : Tag) (zs aas : List Int) (g2 : Nat) (hA : asc aas) (h1 : ∀ z ∈ aas, z ∈ zs) (hz : zs.length ≤ 1000) (ha : aas.length ≤ 1000) (i : Nat) (hi : i < aas.length) :
    lb MZ y5 lpC 5 0 16 (e16 t zs (.rs 0 g2 1 0 aas.length) (.sl t 1 (zs.map iC)) (aas.length : Nat) (i : Nat)) (sC aas g2) =
      some (.normal, e16 t zs (.rs 0 g2 1 0 aas.length) (.sl t 1 (zs.map iC)) (aas.length : Nat) ((i + 1 : Nat) : Int), sC aas g2) := by
  have hx : aas[i]? = some aas[i] := List.getElem?_eq_getElem hi
  generalize aas[i] = x at hx
  have hmem : x ∈ aas := List.mem_of_getElem? hx
  have w2 : IntKind.i64.wrap ((i : Int) + 1) = ((i + 1 : Nat) : Int) := by rw [wrap_i64 (by omega) (by omega)]; omega
  have g1 : (aas.map iC)[0 + i]? = some (iC x) := by rw [Nat.zero_add, List.getElem?_map, hx]; rfl
  have hlen1 : ∀ z : Int, decide (1 ≤ (iC z).length) = true := fun z => rfl
  have hdec : ∀ z : Int, decE ((iC z).take 1) = some z := fun z => rfl
  have d0 : decide (((i : Nat) : Int) < (aas.length : Nat)) = true := decide_eq_true (by omega)
  have d1 : decide ((0 : Int) ≤ (i : Nat)) = true := decide_eq_true (by omega)
  have d2 : decide (i < aas.length) = true := decide_eq_true hi
  have z1 : zs.length.ble 1000000 = true := Nat.ble_eq_true_of_le (by omega)
  rw [b16C, w2, d0, d1, Int.toNat_natCast, d2, g1]
  simp only [cond_true, Option.bind_some, hlen1, hdec, decide_true, decI_map', z1, window_map, any_of (h1 x hmem), Bool.not_true, cond_false]
  cases i with
  | zero =>
    rw [show decide (((0 : Nat) : Int) > 0) = false from rfl, cond_false]
  | succ i =>
    have hy : aas[i]? = some aas[i] := List.getElem?_eq_getElem (by omega)
    generalize aas[i] = y at hy
    have w1 : IntKind.i64.wrap (((i + 1 : Nat) : Int) - 1) = (i : Int) := by rw [wrap_i64 (by omega) (by omega)]; omega
    have g2' : (aas.map iC)[0 + i]? = some (iC y) := by rw [Nat.zero_add, List.getElem?_map, hy]; rfl
    rw [decide_eq_true (show ((i + 1 : Nat) : Int) > 0 by omega), w1, decide_eq_true (show (0 : Int) ≤ (i : Nat) by omega), Int.toNat_natCast, decide_eq_true (show i < aas.length by omega), g2']
    simp only [cond_true, Option.bind_some, hlen1, hdec, decide_eq_false (asc_step hA hx hy), cond_false]

theorem lp16B (t : Tag) (zs aas us ms : List Int) (g2 g3 g5 : Nat) (hA : asc aas) (h1 : ∀ z ∈ aas, z ∈ zs) (h2 : ∀ z ∈ aas, z ∈ ms) (hz : zs.length ≤ 1000) (hm : ms.length ≤ 1000) (ha : aas.length ≤ 1000) (h0 : 0 < aas.length) :
    (lpC 16 0 (lb MZ y5 lpC 5 0 16) (e16 t zs (.rs 1 g2 1 0 aas.length) (.rs 5 g5 1 0 ms.length) (aas.length : Nat) 0) [Row.arr 1 0 (List.map iC zs), Row.arr 1 g2 (List.map iC aas), Row.arr 1 0 (List.map iC zs), Row.arr 1 g3 (List.map iC us), Row.arr 1 0 (List.map iC zs), Row.arr 1 g5 (List.map iC ms)]).bind (contF MZ y5 lpC 5 0 16) = some (.v (.bool true), []) := by
  have he : lb MZ y5 lpC 5 0 16 (e16 t zs (.rs 0 g2 1 0 aas.length) (.rs 1 g5 1 0 ms.length) (aas.length : Nat) (aas.length : Nat)) (sB aas ms g2 g5) = some (.exit 0, e16 t zs (.rs 0 g2 1 0 aas.length) (.rs 1 g5 1 0 ms.length) (aas.length : Nat) (aas.length : Nat), sB aas ms g2 g5) := by
    rw [b16B, decide_eq_false (by omega), cond_false]
  have hr := lpC_run (id := 16) (k := 0) (body := lb MZ y5 lpC 5 0 16) (fun i => e16 t zs (.rs 0 g2 1 0 aas.length) (.rs 1 g5 1 0 ms.length) (aas.length : Nat) (i : Nat)) (fun _ => sB aas ms g2 g5) (aas.length - 1) 1 (by omega) (fun i _ _ => h16B _ _ _ _ _ _ _ _ _ _) (fun i _ hi => go16B t zs aas ms g2 g5 hA h1 h2 hz hm ha i hi) he (by simp)
  have h := lpC_step (h16B0 t zs aas us ms g2 g3 g5 aas.length ms.length (aas.length : Nat) 0) (go16B t zs aas ms g2 g5 hA h1 h2 hz hm ha 0 h0) hr
  rw [h, Option.bind_some, k16B]
theorem lp16C (t : Tag) (zs aas us : List Int) (g2 g3 : Nat) (hA : asc aas) (h1 : ∀ z ∈ aas, z ∈ zs) (hz : zs.length ≤ 1000) (ha : aas.length ≤ 1000) (h0 : 0 < aas.length) :
    (lpC 16 0 (lb MZ y5 lpC 5 0 16) (e16 t zs (.rs 1 g2 1 0 aas.length) (.sl t 1 (zs.map iC)) (aas.length : Nat) 0) [Row.arr 1 0 (List.map iC zs), Row.arr 1 g2 (List.map iC aas), Row.arr 1 0 (List.map iC zs), Row.arr 1 g3 (List.map iC us)]).bind (contF MZ y5 lpC 5 0 16) = some (.v (.bool true), []) := by
  have he : lb MZ y5 lpC 5 0 16 (e16 t zs (.rs 0 g2 1 0 aas.length) (.sl t 1 (zs.map iC)) (aas.length : Nat) (aas.length : Nat)) (sC aas g2) = some (.exit 0, e16 t zs (.rs 0 g2 1 0 aas.length) (.sl t 1 (zs.map iC)) (aas.length : Nat) (aas.length : Nat), sC aas g2) := by
    rw [b16C, decide_eq_false (by omega), cond_false]
  have hr := lpC_run (id := 16) (k := 0) (body := lb MZ y5 lpC 5 0 16) (fun i => e16 t zs (.rs 0 g2 1 0 aas.length) (.sl t 1 (zs.map iC)) (aas.length : Nat) (i : Nat)) (fun _ => sC aas g2) (aas.length - 1) 1 (by omega) (fun i _ _ => h16C _ _ _ _ _ _ _) (fun i _ hi => go16C t zs aas g2 hA h1 hz ha i hi) he (by simp)
  have h := lpC_step (h16C0 t zs aas us g2 g3 aas.length (aas.length : Nat) 0) (go16C t zs aas g2 hA h1 hz ha 0 h0) hr
  rw [h, Option.bind_some, k16C]
end Go.Ab

/- The law's loop over nothing. -/
namespace Go.Ab
open Go Go.Proofs
set_option maxRecDepth 100000
theorem lp0B (t : Tag) (zs us ms : List Int) (g3 g5 nm : Nat) : (lpC 16 0 (lb MZ y5 lpC 5 0 16) (e16 t zs (.v .nils) (.rs 4 g5 1 0 nm) 0 0) [Row.arr 1 0 (List.map iC zs), Row.arr 1 0 (List.map iC zs), Row.arr 1 g3 (List.map iC us), Row.arr 1 0 (List.map iC zs), Row.arr 1 g5 (List.map iC ms)]).bind (contF MZ y5 lpC 5 0 16) = some (.v (.bool true), []) := by
  have h1 : head 0 (e16 t zs (.v .nils) (.rs 4 g5 1 0 nm) 0 0) [Row.arr 1 0 (List.map iC zs), Row.arr 1 0 (List.map iC zs), Row.arr 1 g3 (List.map iC us), Row.arr 1 0 (List.map iC zs), Row.arr 1 g5 (List.map iC ms)] = some (e16 t zs (.v .nils) (.rs 0 g5 1 0 nm) 0 0, [Row.arr 1 g5 (List.map iC ms)]) := by kernel_rfl
  have h2 : lb MZ y5 lpC 5 0 16 (e16 t zs (.v .nils) (.rs 0 g5 1 0 nm) 0 0) [Row.arr 1 g5 (List.map iC ms)] = some (.exit 0, e16 t zs (.v .nils) (.rs 0 g5 1 0 nm) 0 0, [Row.arr 1 g5 (List.map iC ms)]) := by kernel_rfl
  have h3 : contF MZ y5 lpC 5 0 16 (.exit 0, e16 t zs (.v .nils) (.rs 0 g5 1 0 nm) 0 0, [Row.arr 1 g5 (List.map iC ms)]) = some (.v (.bool true), []) := by kernel_rfl
  rw [lpC_exit h1 h2 (by simp), Option.bind_some, h3]
theorem lp0C (t : Tag) (zs : List Int) : (lpC 16 0 (lb MZ y5 lpC 5 0 16) (e16 t zs (.v .nils) (.sl t 1 (zs.map iC)) 0 0) [Row.arr 1 0 (List.map iC zs), Row.arr 1 0 (List.map iC zs)]).bind (contF MZ y5 lpC 5 0 16) = some (.v (.bool true), []) := by
  have h1 : head 0 (e16 t zs (.v .nils) (.sl t 1 (zs.map iC)) 0 0) [Row.arr 1 0 (List.map iC zs), Row.arr 1 0 (List.map iC zs)] = some (e16 t zs (.v .nils) (.sl t 1 (zs.map iC)) 0 0, []) := by kernel_rfl
  have h2 : lb MZ y5 lpC 5 0 16 (e16 t zs (.v .nils) (.sl t 1 (zs.map iC)) 0 0) [] = some (.exit 0, e16 t zs (.v .nils) (.sl t 1 (zs.map iC)) 0 0, []) := by kernel_rfl
  have h3 : contF MZ y5 lpC 5 0 16 (.exit 0, e16 t zs (.v .nils) (.sl t 1 (zs.map iC)) 0 0, []) = some (.v (.bool true), []) := by kernel_rfl
  rw [lpC_exit h1 h2 (by simp), Option.bind_some, h3]
theorem r5s (s : ByteArray) (t : Tag) (zs : List Int) (n : Int) (h : 100 < s.size ∨ 20 < zs.length) : evBody MZ y5 lpC 5 [.v (.str s), .sl t 1 (zs.map iC), .v (.int .i64 n)] [] = some (.v (.bool true), []) := by
  rw [f5]
  by_cases h1 : 100 < s.size
  · rw [decide_eq_true (show Int.ofNat s.size > 100 by show (s.size : Int) > 100; omega), cond_true]
  · rw [decide_eq_false (show ¬ Int.ofNat s.size > 100 by show ¬ (s.size : Int) > 100; omega), cond_false, decide_eq_true (show Int.ofNat (zs.map iC).length > 20 by show ((zs.map iC).length : Int) > 20; rw [List.length_map]; omega), cond_true]
end Go.Ab

/- The law holds. -/
namespace Go.Ab
open Go Go.Proofs
set_option maxRecDepth 100000
set_option maxHeartbeats 2000000
section
variable (s : ByteArray) (t : Tag) (zs : List Int) (n : Int) (hs : s.size ≤ 100) (hz : zs.length ≤ 20)
include hs hz
theorem r5e (he : smpE zs n ≠ 0) : evBody MZ y5 lpC 5 [.v (.str s), .sl t 1 (zs.map iC), .v (.int .i64 n)] [] = some (.v (.bool true), []) := by
  rw [f5]
  have hroom : room 8 zs.length = true := by unfold room; simp only [Bool.and_eq_true, decide_eq_true_eq]; omega
  have c1 : s.size.ble 1000 = true := Nat.ble_eq_true_of_le (by omega)
  have c2 : zs.length.ble 64 = true := Nat.ble_eq_true_of_le (by omega)
  rw [decide_eq_false (show ¬ Int.ofNat s.size > 100 by show ¬ (s.size : Int) > 100; omega), cond_false, decide_eq_false (show ¬ Int.ofNat (zs.map iC).length > 20 by show ¬ ((zs.map iC).length : Int) > 20; rw [List.length_map]; omega), cond_false]
  rw [window_all, decI_map', List.length_map, hroom, cond_true, Option.bind_some, c1, c2, Bool.and_self, cond_true, decide_eq_false he, cond_false]
  try simp [he]
theorem r5B (k : Nat) (he : smpE zs ((k + 1 : Nat) : Int) = 0) (hk : k + 1 < zs.length) : evBody MZ y5 lpC 5 [.v (.str s), .sl t 1 (zs.map iC), .v (.int .i64 ((k + 1 : Nat) : Int))] [] = some (.v (.bool true), []) := by
  rw [f5]
  have hroom : room 8 zs.length = true := by unfold room; simp only [Bool.and_eq_true, decide_eq_true_eq]; omega
  have c1 : s.size.ble 1000 = true := Nat.ble_eq_true_of_le (by omega)
  have c2 : zs.length.ble 64 = true := Nat.ble_eq_true_of_le (by omega)
  have c3 : zs.length.ble 1000000 = true := Nat.ble_eq_true_of_le (by omega)
  have hA := smpE_asc he
  have heA : smpE zs (zs.length : Nat) = 0 := smpE_zero he (by omega) (by omega)
  have heM : smpE zs ((k + 2 : Nat) : Int) = 0 := smpE_zero he (by omega) (by omega)
  have hw : IntKind.i64.wrap (((k + 1 : Nat) : Int) + 1) = ((k + 2 : Nat) : Int) := by rw [wrap_i64 (by omega) (by omega)]; omega
  have hall : smp (fP s) zs zs.length = zs := smp_all (fP_in s) hA
  have n1 : decide (((k + 1 : Nat) : Int) = 0) = false := decide_eq_false (by omega)
  have n2 : decide (((zs.length : Nat) : Int) = 0) = false := decide_eq_false (by omega)
  have n3 : decide (((k + 1 : Nat) : Int) < (zs.length : Nat)) = true := decide_eq_true (by omega)
  have n4 : decide (((k + 2 : Nat) : Int) = 0) = false := decide_eq_false (by omega)
  have hlp := lp16B t zs (smp (fP s) zs (k + 1)) (smp (fP s) zs zs.length) (smp (fP s) zs (k + 2)) k (zs.length - 1) (k + 1) (smp_asc (fP_in s) hA (by omega)) (fun z h => smp_sub (fP_in s) (by omega) h) (fun z h => smp_more (fP s) h) (by omega) (by rw [smp_len]; omega) (by rw [smp_len]; omega) (by rw [smp_len]; omega)
  rw [smp_len, smp_len] at hlp
  rw [decide_eq_false (show ¬ Int.ofNat s.size > 100 by show ¬ (s.size : Int) > 100; omega), cond_false, decide_eq_false (show ¬ Int.ofNat (zs.map iC).length > 20 by show ¬ ((zs.map iC).length : Int) > 20; rw [List.length_map]; omega), cond_false]
  rw [window_all, decI_map', List.length_map, hroom, cond_true, Option.bind_some, c1, c2, Bool.and_self, cond_true, decide_eq_true he, cond_true, n1, cond_false]
  rw [show Int.ofNat zs.length = ((zs.length : Nat) : Int) from rfl]
  simp only [cond_true, Option.bind_some, decI_map', c1, c2, c3, Bool.and_self, heA, decide_true, n2, cond_false, Int.toNat_natCast, window_map, hall, Bool.not_true, n3, hw, heM, n4]
  rw [hall] at hlp
  exact hlp
theorem r5C (k : Nat) (he : smpE zs ((k + 1 : Nat) : Int) = 0) (hk : k + 1 = zs.length) : evBody MZ y5 lpC 5 [.v (.str s), .sl t 1 (zs.map iC), .v (.int .i64 ((k + 1 : Nat) : Int))] [] = some (.v (.bool true), []) := by
  rw [f5]
  have hroom : room 8 zs.length = true := by unfold room; simp only [Bool.and_eq_true, decide_eq_true_eq]; omega
  have c1 : s.size.ble 1000 = true := Nat.ble_eq_true_of_le (by omega)
  have c2 : zs.length.ble 64 = true := Nat.ble_eq_true_of_le (by omega)
  have c3 : zs.length.ble 1000000 = true := Nat.ble_eq_true_of_le (by omega)
  have hA := smpE_asc he
  have heA : smpE zs (zs.length : Nat) = 0 := smpE_zero he (by omega) (by omega)
  have hw : IntKind.i64.wrap (((k + 1 : Nat) : Int) + 1) = ((k + 2 : Nat) : Int) := by rw [wrap_i64 (by omega) (by omega)]; omega
  have hall : smp (fP s) zs zs.length = zs := smp_all (fP_in s) hA
  have n1 : decide (((k + 1 : Nat) : Int) = 0) = false := decide_eq_false (by omega)
  have n2 : decide (((zs.length : Nat) : Int) = 0) = false := decide_eq_false (by omega)
  have n3 : decide (((k + 1 : Nat) : Int) < (zs.length : Nat)) = false := decide_eq_false (by omega)
  have n4 : decide (((k + 2 : Nat) : Int) = 0) = false := decide_eq_false (by omega)
  have hlp := lp16C t zs (smp (fP s) zs (k + 1)) (smp (fP s) zs zs.length) k (zs.length - 1) (smp_asc (fP_in s) hA (by omega)) (fun z h => smp_sub (fP_in s) (by omega) h) (by omega) (by rw [smp_len]; omega) (by rw [smp_len]; omega)
  rw [smp_len] at hlp
  rw [decide_eq_false (show ¬ Int.ofNat s.size > 100 by show ¬ (s.size : Int) > 100; omega), cond_false, decide_eq_false (show ¬ Int.ofNat (zs.map iC).length > 20 by show ¬ ((zs.map iC).length : Int) > 20; rw [List.length_map]; omega), cond_false]
  rw [window_all, decI_map', List.length_map, hroom, cond_true, Option.bind_some, c1, c2, Bool.and_self, cond_true, decide_eq_true he, cond_true, n1, cond_false]
  rw [show Int.ofNat zs.length = ((zs.length : Nat) : Int) from rfl]
  simp only [cond_true, Option.bind_some, decI_map', c1, c2, c3, Bool.and_self, heA, decide_true, n2, cond_false, Int.toNat_natCast, window_map, hall, Bool.not_true, n3]
  rw [hall] at hlp
  exact hlp
theorem r5Z (he : smpE zs 0 = 0) : evBody MZ y5 lpC 5 [.v (.str s), .sl t 1 (zs.map iC), .v (.int .i64 0)] [] = some (.v (.bool true), []) := by
  rw [f5]
  have hroom : room 8 zs.length = true := by unfold room; simp only [Bool.and_eq_true, decide_eq_true_eq]; omega
  have c1 : s.size.ble 1000 = true := Nat.ble_eq_true_of_le (by omega)
  have c2 : zs.length.ble 64 = true := Nat.ble_eq_true_of_le (by omega)
  have c3 : zs.length.ble 1000000 = true := Nat.ble_eq_true_of_le (by omega)
  have hA := smpE_asc he
  have heA : smpE zs (zs.length : Nat) = 0 := smpE_zero he (by omega) (by omega)
  have hw : IntKind.i64.wrap ((0 : Int) + 1) = (1 : Int) := by rw [wrap_i64 (by omega) (by omega)]; omega
  have hall : smp (fP s) zs zs.length = zs := smp_all (fP_in s) hA
  rw [decide_eq_false (show ¬ Int.ofNat s.size > 100 by show ¬ (s.size : Int) > 100; omega), cond_false, decide_eq_false (show ¬ Int.ofNat (zs.map iC).length > 20 by show ¬ ((zs.map iC).length : Int) > 20; rw [List.length_map]; omega), cond_false]
  rw [window_all, decI_map', List.length_map, hroom, cond_true, Option.bind_some, c1, c2, Bool.and_self, cond_true, decide_eq_true he, cond_true]
  rw [show Int.ofNat zs.length = ((zs.length : Nat) : Int) from rfl]
  rcases Nat.eq_zero_or_pos zs.length with h0 | h0
  · have hz0 : zs = [] := List.length_eq_zero_iff.1 h0
    subst hz0
    have heZ : smpE ([] : List Int) ((([] : List Int).length : Nat) : Int) = 0 := heA
    have hd : decI (List.map iC ([] : List Int)) = some [] := rfl
    simp only [decide_true, cond_true, Option.bind_some, hd, c1, Bool.and_self, heZ, cond_false, Bool.not_true]
    exact lp0C t []
  · have n2 : decide (((zs.length : Nat) : Int) = 0) = false := decide_eq_false (by omega)
    have n3 : decide ((0 : Int) < (zs.length : Nat)) = true := decide_eq_true (by omega)
    have heM : smpE zs (1 : Int) = 0 := smpE_zero he (by omega) (by omega)
    have n4 : decide ((1 : Int) = 0) = false := rfl
    simp only [cond_true, Option.bind_some, decI_map', c1, c2, c3, Bool.and_self, heA, decide_true, n2, cond_false, Int.toNat_natCast, window_map, hall, Bool.not_true, n3, hw, heM, n4]
    have hlp := lp0B t zs zs (smp (fP s) zs 1) (zs.length - 1) 0 1
    exact hlp
end
theorem r5all (s : ByteArray) (t : Tag) (zs : List Int) (n : Int) : evBody MZ y5 lpC 5 [.v (.str s), .sl t 1 (zs.map iC), .v (.int .i64 n)] [] = some (.v (.bool true), []) := by
  by_cases h1 : 100 < s.size ∨ 20 < zs.length
  · exact r5s s t zs n h1
  · have hs : s.size ≤ 100 := by omega
    have hz : zs.length ≤ 20 := by omega
    by_cases he : smpE zs n = 0
    · obtain ⟨h2, h3⟩ := smpE_in he
      by_cases h0 : n = 0
      · subst h0
        exact r5Z s t zs hs hz he
      · obtain ⟨k, rfl⟩ : ∃ k : Nat, n = ((k + 1 : Nat) : Int) := ⟨n.toNat - 1, by omega⟩
        by_cases hk : k + 1 < zs.length
        · exact r5B s t zs hs hz k he hk
        · exact r5C s t zs hs hz k he (by omega)
    · exact r5e s t zs n hs hz he
/-- The law at work. -/
theorem call5S (s : ByteArray) (t : Tag) (zs : List Int) (n : Int) : CallSem PO 5 [.v (.str s), .sl t 1 (zs.map iC), .v (.int .i64 n)] [] (.v (.bool true)) [] := call_z y5_ok (by kernel_rfl) (by decide) (r5all s t zs n)
end Go.Ab
