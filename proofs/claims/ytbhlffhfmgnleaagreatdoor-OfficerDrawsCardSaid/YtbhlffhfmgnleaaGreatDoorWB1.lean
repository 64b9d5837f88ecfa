/- Made by a program: what the evaluator is told of each function (which temporaries to keep; which slices may be written). -/
import Derived.Test.YtbhlffhfmgnleaaGreatDoorWA6
import Derived.Test.YtbhlffhfmgnleaaGreatDoorProg
import Derived.Test.YtbhlffhfmgnleaaGreatDoorWA7
import Derived.KernelRfl
set_option linter.all false
namespace Go.Ab
open Go
def hint4 : List (Nat × List Nat) := [(220, [4, 5, 8])]
def hint5 : List (Nat × List Nat) := [(208, [1, 6, 7, 11]), (50, [1, 6, 7, 11, 82, 83, 84])]
def hint11 : List (Nat × List Nat) := [(20, [0, 1, 2, 6, 7, 8]), (47, [0, 6, 7, 9, 10, 43, 44])]
def hint13 : List (Nat × List Nat) := [(14, [0, 1, 2, 6, 7, 8]), (29, [0, 1, 2, 6, 7, 9]), (56, [0, 1, 2, 6, 7, 10, 11, 12]), (74, [0, 1, 2, 6, 7, 10, 11, 12, 15, 16]), (92, [1, 6, 7, 11, 17, 18]), (412, [1, 6, 7, 11, 17, 18])]
def hint14 : List (Nat × List Nat) := [(14, [0, 1, 4, 12, 13])]
def hint18 : List (Nat × List Nat) := [(14, [0, 2, 3, 4]), (35, [2, 6, 37, 38])]
def hint22 : List (Nat × List Nat) := [(11, [0, 2, 3, 4]), (23, [0, 2, 3, 4, 5, 6])]
def hint24 : List (Nat × List Nat) := [(14, [0, 1, 4, 5, 19, 20])]
def hint25 : List (Nat × List Nat) := [(14, [1, 2, 4, 5, 16, 17, 18]), (35, [1, 2, 4, 5, 8, 39, 40, 41]), (268, [1, 2, 4, 5, 8, 39, 40, 41])]
def hint27 : List (Nat × List Nat) := [(14, [0, 1, 4, 12, 13])]
def hint31 : List (Nat × List Nat) := [(14, [0, 2, 3, 4]), (32, [2, 3, 5, 6]), (41, [2, 3, 5, 6, 7])]
def hint38 : List (Nat × List Nat) := [(11, [1, 2, 3, 4, 8, 9, 19, 20]), (29, [2, 3, 4, 8, 9, 11, 38]), (199, [4, 8, 9, 11]), (56, [4, 8, 9, 11, 71, 72]), (65, [4, 8, 9, 11, 14, 71, 72, 75, 76]), (83, [4, 8, 11, 98])]
def hint39 : List (Nat × List Nat) := [(8, [0, 1, 4, 7, 8])]
def hint44 : List (Nat × List Nat) := [(14, [0, 1, 4, 5]), (29, [0, 1, 4, 5, 6, 7]), (148, [0, 1, 4, 5, 6, 7])]
def hint45 : List (Nat × List Nat) := [(11, [2, 3, 6, 7, 8])]
def hint48 : List (Nat × List Nat) := [(28, [3, 4, 5])]
def hint49 : List (Nat × List Nat) := [(11, [2, 3, 6, 7, 8])]
def hint51 : List (Nat × List Nat) := [(20, [1, 4, 5, 7, 16, 17, 18]), (76, [1, 4, 5, 7, 16, 17, 18])]
def hint55 : List (Nat × List Nat) := [(8, [1, 4, 5, 8, 9, 10])]
def hint56 : List (Nat × List Nat) := [(11, [1, 2, 3, 4])]
def hint59 : List (Nat × List Nat) := [(11, [1, 2, 3, 4, 8, 9, 10, 11]), (26, [2, 3, 4, 8, 9, 10, 12, 13]), (205, [4, 8, 9, 10]), (50, [4, 8, 9, 10, 14]), (62, [4, 8, 9, 10, 14, 15, 16]), (74, [4, 8, 9, 10, 14, 15, 17]), (86, [4, 8, 10, 18])]
def hint60 : List (Nat × List Nat) := [(8, [0, 1, 4, 7, 8])]
def hint61 : List (Nat × List Nat) := [(8, [0, 1, 2, 3, 8, 9]), (106, [0, 1, 2, 3, 8, 9, 10]), (151, [0, 1, 2, 3, 8, 9, 10, 11, 12]), (205, [0, 1, 2, 3, 8, 9, 10, 11]), (340, [0, 1, 2, 3, 8, 9])]
def hint63 : List (Nat × List Nat) := [(70, [0, 4, 5, 6])]
def hint65 : List (Nat × List Nat) := [(14, [0, 2, 3, 10, 11, 12]), (53, [0, 2, 3, 4, 5, 6, 10, 11, 12])]
def hint66 : List (Nat × List Nat) := [(8, [0, 1, 4, 7, 8])]
def hint70 : List (Nat × List Nat) := [(11, [2, 3, 6, 7, 8])]
def hint73 : List (Nat × List Nat) := [(8, [0, 1, 4, 9, 10, 11])]
def hint74 : List (Nat × List Nat) := [(8, [0, 1, 4, 9, 10, 11])]
def hint75 : List (Nat × List Nat) := [(55, [0, 1, 4]), (103, [0, 4, 6]), (130, [0, 4, 7, 43]), (130, [0, 4, 7, 43]), (130, [0, 4, 7, 43]), (130, [0, 4, 7, 43]), (130, [0, 4, 7]), (289, [0, 4, 7, 8]), (313, [0, 4, 7, 8]), (116, [4, 7, 8, 9])]
def hint76 : List (Nat × List Nat) := [(14, [2, 3, 19, 20, 21])]
def hint77 : List (Nat × List Nat) := [(20, [1, 4, 5, 8, 24, 25, 26])]
def hint79 : List (Nat × List Nat) := [(14, [1, 2, 6, 15, 16, 17])]
def hint82 : List (Nat × List Nat) := [(11, [0, 2, 3, 4])]
def hint86 : List (Nat × List Nat) := [(5, [0, 1, 2, 6]), (14, [0, 1, 2, 6, 7])]
def hint87 : List (Nat × List Nat) := [(14, [0, 6, 7, 8, 9]), (26, [0, 6, 7, 10])]
def hint88 : List (Nat × List Nat) := [(46, []), (17, [0, 1, 6, 7, 8, 9]), (130, [0, 1, 6, 7, 8, 9, 10])]
def hint89 : List (Nat × List Nat) := [(97, [6, 7, 9, 11]), (103, [0, 6, 7, 9, 10, 11, 12])]
def hint90 : List (Nat × List Nat) := [(8, [0, 6, 7])]
def hint91 : List (Nat × List Nat) := [(11, [0, 1, 2, 6, 7, 8]), (17, [0, 1, 2, 6, 7, 8]), (184, [0, 1, 2, 6, 7, 8]), (44, [0, 1, 2, 6, 7, 8, 9]), (295, [0, 1, 2, 6, 7, 8]), (62, [0, 1, 2, 6, 7, 8, 10])]
def hint93 : List (Nat × List Nat) := [(11, [0, 1, 8, 9, 10]), (11, [0, 1, 8, 9, 10]), (17, [0, 1, 8, 9, 10])]
def hint94 : List (Nat × List Nat) := [(11, [0, 1, 8, 9, 10, 11]), (17, [0, 1, 8, 9, 10, 11]), (41, [0, 1, 8, 9, 10, 11]), (41, [0, 1, 8, 9, 10, 11]), (47, [0, 1, 8, 9, 10, 11])]
def hint95 : List (Nat × List Nat) := [(13, [0, 2]), (25, [0, 2])]
def hint96 : List (Nat × List Nat) := [(13, [0, 2]), (25, [0, 2]), (43, [0, 2])]
def hint99 : List (Nat × List Nat) := [(5, [0, 1, 4]), (298, [0, 4, 12]), (418, [0, 4, 12]), (484, [])]
def hint100 : List (Nat × List Nat) := [(85, [0, 1, 2, 3, 4, 10, 11]), (91, [0, 1, 2, 3, 4, 10, 11, 12, 13]), (103, [0, 3, 4, 10, 11, 12, 13]), (56, [0, 1, 3, 4, 10, 11, 12, 13, 17]), (35, [0, 1, 3, 4, 10, 11, 12, 13, 14, 15, 16]), (268, [0, 4, 10, 11, 12, 13])]
def hint106 : List (Nat × List Nat) := [(8, [0, 2, 5, 6])]
def hint108 : List (Nat × List Nat) := [(8, [0, 1, 2, 6, 7, 8]), (23, [0, 1, 2, 6]), (29, [0, 1, 2, 6, 7, 8]), (163, [0, 1, 2, 6])]
def hint113 : List (Nat × List Nat) := [(22, [0, 1]), (64, [])]
def hint118 : List (Nat × List Nat) := [(17, [1, 2, 3, 4, 34, 35, 36]), (35, [2, 3, 4, 7, 49, 50, 51])]
def hint119 : List (Nat × List Nat) := [(23, [2, 3, 5, 6, 34]), (190, [2, 3, 5, 6, 34]), (59, [2, 3, 5, 6, 80]), (74, [2, 3, 5, 6, 80, 94, 95, 96])]
def hint125 : List (Nat × List Nat) := [(5, [0, 2, 3, 8]), (109, [0, 2, 3, 8, 9])]
def hint135 : List (Nat × List Nat) := [(8, [0, 1, 4, 7, 8])]
def hint136 : List (Nat × List Nat) := [(5, [0, 1, 2, 3, 8]), (14, [0, 1, 2, 3, 8, 9])]
def hint137 : List (Nat × List Nat) := [(11, [0, 1, 4, 10, 11]), (151, [0, 1, 4, 10, 11]), (29, [0, 10, 13]), (47, [0, 2, 4, 14, 15]), (310, [0, 2, 4, 14, 15]), (65, [0, 14, 17]), (421, [0, 1, 2, 3, 4, 18, 19, 20, 21]), (101, [0, 1, 2, 3, 4, 18, 19, 20, 21, 22]), (514, [0, 1, 2, 3, 4, 18, 19, 20, 21, 22]), (556, [0, 1, 3, 4, 18, 20, 24]), (598, [0, 3, 4, 18, 24]), (640, [])]
def hint142 : List (Nat × List Nat) := [(19, [])]
def hint144 : List (Nat × List Nat) := [(67, [0, 1, 4, 5]), (88, [0, 1, 4, 5]), (38, [0, 1, 4, 5, 39, 40, 41]), (148, [0, 1, 4, 5, 7, 39, 40, 41]), (68, [1, 4, 8, 63, 64, 65])]
def hint145 : List (Nat × List Nat) := [(19, [0, 2])]
def hint148 : List (Nat × List Nat) := [(14, [2, 3, 4, 23, 24, 25]), (32, [2, 3, 4, 7, 42, 43, 44]), (53, [2, 3, 68, 69, 70])]
def hint150 : List (Nat × List Nat) := [(139, [2, 3, 6])]
def hint155 : List (Nat × List Nat) := [(20, [0, 4, 5, 6, 7, 8, 50, 51, 52]), (190, [0, 4, 5, 6, 7, 11])]
def hint159 : List (Nat × List Nat) := [(8, [0, 2, 4, 10, 11]), (70, [0, 2, 4, 10, 11])]
def hint162 : List (Nat × List Nat) := [(25, [])]
def hint168 : List (Nat × List Nat) := [(8, [0, 1, 2, 3, 4, 10, 11]), (118, [0, 1, 2, 3, 4, 10, 11, 12]), (169, [0, 1, 2, 3, 4, 10, 11, 12, 13, 14]), (226, [0, 1, 2, 3, 4, 10, 11, 12, 13]), (376, [0, 1, 2, 3, 4, 10, 11])]
def hint169 : List (Nat × List Nat) := [(8, [0, 1, 2, 3, 4, 10, 11]), (118, [0, 1, 2, 3, 4, 10, 11, 12]), (169, [0, 1, 2, 3, 4, 10, 11, 12, 13, 14]), (226, [0, 1, 2, 3, 4, 10, 11, 12, 13]), (376, [0, 1, 2, 3, 4, 10, 11])]
def hint179 : List (Nat × List Nat) := [(5, [0, 1, 2, 3, 10])]
def hint181 : List (Nat × List Nat) := [(46, [])]
def hint182 : List (Nat × List Nat) := [(20, [2, 3, 4, 5]), (175, [2, 3, 4, 5]), (47, [2, 3, 6, 61]), (62, [2, 3, 6, 8]), (86, [2, 3, 11, 12]), (352, [2, 3, 11, 12, 13, 14])]
def hint185 : List (Nat × List Nat) := [(5, [0, 5])]
def hint186 : List (Nat × List Nat) := [(14, [0, 3, 8, 9, 10, 11]), (26, [0, 3, 8, 9, 12])]
def hint187 : List (Nat × List Nat) := [(52, []), (17, [0, 1, 8, 9, 10, 11]), (136, [0, 1, 8, 9, 10, 11, 12])]
def hint188 : List (Nat × List Nat) := [(103, [8, 9, 11, 13]), (109, [0, 3, 8, 9, 11, 12, 13, 14])]
def hint189 : List (Nat × List Nat) := [(8, [0, 8, 9])]
def hint190 : List (Nat × List Nat) := [(11, [0, 1, 2, 3, 8, 9, 10]), (17, [0, 1, 2, 3, 8, 9, 10]), (196, [0, 1, 2, 3, 8, 9, 10]), (44, [0, 1, 2, 3, 8, 9, 10, 11]), (313, [0, 1, 2, 3, 8, 9, 10]), (62, [0, 1, 2, 3, 8, 9, 10, 12])]
def hint191 : List (Nat × List Nat) := [(11, [0, 1, 4, 10, 11, 12]), (11, [0, 1, 4, 10, 11, 12]), (17, [0, 1, 4, 10, 11, 12])]
def hint192 : List (Nat × List Nat) := [(11, [0, 1, 4, 10, 11, 12, 13]), (17, [0, 1, 4, 10, 11, 12, 13]), (41, [0, 1, 4, 10, 11, 12, 13]), (41, [0, 1, 4, 10, 11, 12, 13]), (47, [0, 1, 4, 10, 11, 12, 13])]
def hint193 : List (Nat × List Nat) := [(5, [0, 1, 2, 3, 8]), (14, [0, 1, 2, 3, 8, 9])]
def hint194 : List (Nat × List Nat) := [(14, [0, 3, 8, 9, 10, 11]), (26, [0, 3, 8, 9, 12])]
def hint195 : List (Nat × List Nat) := [(52, []), (17, [0, 1, 8, 9, 10, 11]), (136, [0, 1, 8, 9, 10, 11, 12])]
def hint196 : List (Nat × List Nat) := [(103, [8, 9, 11, 13]), (109, [0, 3, 8, 9, 11, 12, 13, 14])]
def hint197 : List (Nat × List Nat) := [(8, [0, 8, 9])]
def hint198 : List (Nat × List Nat) := [(11, [0, 1, 2, 3, 8, 9, 10]), (17, [0, 1, 2, 3, 8, 9, 10]), (196, [0, 1, 2, 3, 8, 9, 10]), (44, [0, 1, 2, 3, 8, 9, 10, 11]), (313, [0, 1, 2, 3, 8, 9, 10]), (62, [0, 1, 2, 3, 8, 9, 10, 12])]
def hint199 : List (Nat × List Nat) := [(11, [0, 1, 4, 10, 11, 12]), (11, [0, 1, 4, 10, 11, 12]), (17, [0, 1, 4, 10, 11, 12])]
def hint200 : List (Nat × List Nat) := [(11, [0, 1, 4, 10, 11, 12, 13]), (17, [0, 1, 4, 10, 11, 12, 13]), (41, [0, 1, 4, 10, 11, 12, 13]), (41, [0, 1, 4, 10, 11, 12, 13]), (47, [0, 1, 4, 10, 11, 12, 13])]
def hint202 : List (Nat × List Nat) := [(127, [6, 8])]
def hint210 : List (Nat × List Nat) := [(11, [0, 1, 2, 6, 7, 8, 9, 10]), (94, [0, 1, 2, 6, 7, 8, 9, 10])]
def hint212 : List (Nat × List Nat) := [(8, [0, 1, 4, 7, 8])]
def hint218 : List (Nat × List Nat) := [(11, [0, 2, 3, 4]), (23, [0, 2, 3, 4, 5, 6]), (35, [0, 2, 3, 40, 41]), (53, [0, 2, 3, 9, 57, 58]), (190, [0, 2, 3, 9, 57, 58]), (80, [0, 2, 3, 12])]
def hint220 : List (Nat × List Nat) := [(5, [0, 2, 3, 4, 10]), (121, [0, 2, 3, 4, 10, 11])]
def hint223 : List (Nat × List Nat) := [(5, [0, 2, 3, 4, 10]), (121, [0, 2, 3, 4, 10, 11])]
def hint226 : List (Nat × List Nat) := [(73, [4, 6])]
def hint229 : List (Nat × List Nat) := [(127, [])]
def hint233 : List (Nat × List Nat) := [(49, [])]
def hint236 : List (Nat × List Nat) := [(14, [0, 2, 3, 4, 20]), (29, [0, 2, 3, 4, 6]), (44, [0, 2, 3, 4, 7, 8]), (172, [0, 2, 3, 4, 7, 8]), (62, [0, 2, 3, 4, 9]), (277, [0, 2, 3, 4, 9])]
def hint237 : List (Nat × List Nat) := [(64, []), (103, []), (568, []), (613, [0, 1, 2, 3, 4, 14]), (20, [0, 1, 2, 3, 4, 10]), (199, []), (238, []), (256, [0, 1, 2, 3, 4, 11])]
def hint240 : List (Nat × List Nat) := [(109, [3, 4, 5, 7])]
def hint241 : List (Nat × List Nat) := [(11, [0, 2, 4, 6, 7, 8, 9, 10]), (94, [0, 2, 4, 6, 7, 8, 9, 10])]
def hint251 : List (Nat × List Nat) := [(17, [0, 2, 3, 4, 5, 6]), (124, [0, 2, 3, 4, 5]), (157, [0, 2, 3, 4, 5, 6, 7]), (172, [0, 2, 3, 4, 5, 6, 7]), (196, [0, 2, 3, 4, 5, 6, 7]), (205, [0, 2, 3, 4, 5, 6, 7]), (214, [0, 2, 3, 4, 5, 6, 7]), (241, [0, 2, 3, 4, 5, 6]), (262, [0, 2, 3, 8]), (346, [0, 3, 6]), (370, [0, 9])]
def hint254 : List (Nat × List Nat) := [(25, [0, 1]), (37, []), (14, [0, 4])]
def hint255 : List (Nat × List Nat) := [(5, [0, 1, 4])]
def hint257 : List (Nat × List Nat) := [(11, [0, 3, 4, 17, 18, 19]), (53, [0, 4, 79, 80, 81])]
def hint259 : List (Nat × List Nat) := [(52, [])]
def hint260 : List (Nat × List Nat) := [(52, [])]
def hint261 : List (Nat × List Nat) := [(14, [1, 2, 21, 22])]
def hint262 : List (Nat × List Nat) := [(28, [0, 4])]
def hint265 : List (Nat × List Nat) := [(8, [2, 5, 6, 7])]
def hint276 : List (Nat × List Nat) := [(8, [1, 2, 6, 7, 8])]
def hint278 : List (Nat × List Nat) := [(61, [0, 1, 5])]
def hint281 : List (Nat × List Nat) := [(121, [8, 11])]
def hint282 : List (Nat × List Nat) := [(11, [0, 2, 7, 8])]
def hint288 : List (Nat × List Nat) := [(5, [0, 2, 3])]
def hint289 : List (Nat × List Nat) := [(8, [0, 2, 5, 6])]
def hint290 : List (Nat × List Nat) := [(26, [4, 5, 8, 29, 30, 31])]
def hint291 : List (Nat × List Nat) := [(52, []), (115, []), (145, [])]
def hint293 : List (Nat × List Nat) := [(5, [0, 5])]
def hint295 : List (Nat × List Nat) := [(5, [0, 2, 3])]
def hint296 : List (Nat × List Nat) := [(14, [0, 2, 3, 10, 11])]
def hint300 : List (Nat × List Nat) := [(11, [0, 1, 2, 6, 7, 8, 9, 10]), (94, [0, 1, 2, 6, 7, 8, 9, 10])]
def hint308 : List (Nat × List Nat) := [(11, [2, 3, 4, 5, 12, 13, 14])]
def hint312 : List (Nat × List Nat) := [(11, [2, 3, 6, 7, 8])]
def hint317 : List (Nat × List Nat) := [(14, [2, 3, 4, 5, 8, 9, 10])]
def hint318 : List (Nat × List Nat) := [(29, [4, 5, 6, 9, 11, 34, 35, 36])]
def hint319 : List (Nat × List Nat) := [(11, [1, 4, 5, 8, 9, 10]), (58, [1, 4, 5, 8, 9, 10])]
def hint321 : List (Nat × List Nat) := [(17, [1, 2, 3, 11, 12, 13])]
def hint322 : List (Nat × List Nat) := [(11, [0, 2, 3, 9, 10, 11]), (61, [0, 2, 3, 9, 10, 11]), (35, [2, 6, 25, 26, 27])]
def hint323 : List (Nat × List Nat) := [(2, [0, 1, 2, 3]), (67, [0, 1, 2, 3, 5]), (145, [0, 1, 2, 3, 5])]
def hint324 : List (Nat × List Nat) := [(8, [0, 1, 4, 7, 8])]
def hint328 : List (Nat × List Nat) := [(17, [0, 2, 3, 9, 10, 11])]
def hint329 : List (Nat × List Nat) := [(35, [4, 5, 6, 25, 26, 27])]
def hint330 : List (Nat × List Nat) := [(23, [0, 4, 5, 6, 8, 9, 10, 11, 34, 35, 36]), (47, [4, 5, 8, 10, 69, 70])]
def hint331 : List (Nat × List Nat) := [(19, [0, 1, 4]), (49, [0, 4])]
def hint332 : List (Nat × List Nat) := [(5, [0, 2, 3])]
def hint336 : List (Nat × List Nat) := [(61, [0, 1, 2, 6, 7]), (73, [0, 1, 2, 6, 7]), (53, [2, 6, 7, 8, 9, 10, 11, 13, 14, 15, 16]), (74, [2, 6, 7, 8, 9, 10, 14, 15, 16, 17, 18])]
def hint340 : List (Nat × List Nat) := [(8, [0, 1, 2, 6, 7, 8]), (23, [0, 1, 2, 6]), (29, [0, 1, 2, 6, 7, 8]), (163, [0, 1, 2, 6])]
def hint341 : List (Nat × List Nat) := [(5, [0, 1, 2, 3, 8]), (14, [0, 1, 2, 3, 8, 9])]
def hint342 : List (Nat × List Nat) := [(11, [0, 1, 4, 10, 11]), (151, [0, 1, 4, 10, 11]), (29, [0, 10, 13]), (47, [0, 2, 4, 14, 15]), (310, [0, 2, 4, 14, 15]), (65, [0, 14, 17]), (421, [0, 1, 2, 3, 4, 18, 19, 20, 21]), (101, [0, 1, 2, 3, 4, 18, 19, 20, 21, 22]), (514, [0, 1, 2, 3, 4, 18, 19, 20, 21, 22]), (556, [0, 1, 3, 4, 18, 20, 24]), (598, [0, 3, 4, 18, 24]), (640, [])]
def hint343 : List (Nat × List Nat) := [(8, [0, 2, 4, 10, 11]), (70, [0, 2, 4, 10, 11])]
def hint344 : List (Nat × List Nat) := [(5, [0, 1, 2, 3, 10])]
def hint361 : List (Nat × List Nat) := [(11, [0, 1, 4, 5, 6, 7])]
def hint362 : List (Nat × List Nat) := [(11, [0, 2, 6, 7, 8, 9])]
def hint363 : List (Nat × List Nat) := [(8, [0, 1, 4, 5]), (14, [0, 1, 4, 5, 6])]
def hint365 : List (Nat × List Nat) := [(17, [0, 2, 6, 7, 8, 9, 11, 12]), (103, [0, 2, 6, 7, 8, 9, 11, 12]), (349, [6, 7])]
def hint366 : List (Nat × List Nat) := [(34, [2, 3])]
def hint367 : List (Nat × List Nat) := [(14, [0, 1, 2, 6, 7, 8, 9, 10, 11]), (103, [0, 1, 2, 6, 7, 8, 9, 10, 11]), (151, [0, 1, 2, 6, 7, 8, 9, 10, 11])]
def hint368 : List (Nat × List Nat) := [(11, [0, 1, 4, 5, 6]), (70, [0, 1, 4, 5, 6]), (76, [0, 1, 4, 5, 6, 7])]
def hint369 : List (Nat × List Nat) := [(14, [0, 1, 2, 6, 7, 8, 9, 10]), (115, [0, 1, 2, 6, 7, 8, 10, 11]), (256, [6, 7])]
def hint370 : List (Nat × List Nat) := [(79, [0, 1, 4, 5, 6]), (41, [0, 1, 4, 5, 6, 10]), (211, [0, 1, 4, 5, 6, 10]), (17, [0, 1, 4, 5, 6, 30, 31, 32]), (121, [0, 1, 4, 5, 6, 30, 31, 32]), (74, [0, 1, 4, 12, 13, 14]), (304, [0, 1, 4, 12, 13, 14])]
def hint371 : List (Nat × List Nat) := [(14, [0, 1, 2, 6, 7, 8, 9, 10]), (112, [0, 1, 2, 6, 7, 8, 10, 11]), (250, [6, 7])]
def hint372 : List (Nat × List Nat) := [(20, [0, 1, 4, 5])]
def hint373 : List (Nat × List Nat) := [(8, [2, 4])]
def hint376 : List (Nat × List Nat) := [(47, [0, 1, 4, 5, 6, 7, 8, 9, 10]), (193, [0, 1, 4, 5, 6, 7, 8, 9, 10])]
def hint380 : List (Nat × List Nat) := [(17, [0, 1, 4, 5, 6, 7, 8, 9]), (35, [0, 1, 4, 5, 6, 7, 8, 10])]
def hint382 : List (Nat × List Nat) := [(11, [0, 2, 3, 4, 5]), (26, [2, 3, 4, 6, 7, 8]), (91, [2, 3, 4, 6, 7, 8])]
def hintTab (f : Nat) : List (Nat × List Nat) := (bif Nat.blt f 199 then (bif Nat.blt f 99 then (bif Nat.blt f 49 then (bif Nat.blt f 24 then (bif Nat.blt f 12 then (bif Nat.blt f 6 then (bif Nat.blt f 3 then (bif Nat.blt f 1 then [] else (bif Nat.blt f 2 then [] else [])) else (bif Nat.blt f 4 then [] else (bif Nat.blt f 5 then hint4 else hint5))) else (bif Nat.blt f 9 then (bif Nat.blt f 7 then [] else (bif Nat.blt f 8 then [] else [])) else (bif Nat.blt f 10 then [] else (bif Nat.blt f 11 then [] else hint11)))) else (bif Nat.blt f 18 then (bif Nat.blt f 15 then (bif Nat.blt f 13 then [] else (bif Nat.blt f 14 then hint13 else hint14)) else (bif Nat.blt f 16 then [] else (bif Nat.blt f 17 then [] else []))) else (bif Nat.blt f 21 then (bif Nat.blt f 19 then hint18 else (bif Nat.blt f 20 then [] else [])) else (bif Nat.blt f 22 then [] else (bif Nat.blt f 23 then hint22 else []))))) else (bif Nat.blt f 36 then (bif Nat.blt f 30 then (bif Nat.blt f 27 then (bif Nat.blt f 25 then hint24 else (bif Nat.blt f 26 then hint25 else [])) else (bif Nat.blt f 28 then hint27 else (bif Nat.blt f 29 then [] else []))) else (bif Nat.blt f 33 then (bif Nat.blt f 31 then [] else (bif Nat.blt f 32 then hint31 else [])) else (bif Nat.blt f 34 then [] else (bif Nat.blt f 35 then [] else [])))) else (bif Nat.blt f 42 then (bif Nat.blt f 39 then (bif Nat.blt f 37 then [] else (bif Nat.blt f 38 then [] else hint38)) else (bif Nat.blt f 40 then hint39 else (bif Nat.blt f 41 then [] else []))) else (bif Nat.blt f 45 then (bif Nat.blt f 43 then [] else (bif Nat.blt f 44 then [] else hint44)) else (bif Nat.blt f 47 then (bif Nat.blt f 46 then hint45 else []) else (bif Nat.blt f 48 then [] else hint48)))))) else (bif Nat.blt f 74 then (bif Nat.blt f 61 then (bif Nat.blt f 55 then (bif Nat.blt f 52 then (bif Nat.blt f 50 then hint49 else (bif Nat.blt f 51 then [] else hint51)) else (bif Nat.blt f 53 then [] else (bif Nat.blt f 54 then [] else []))) else (bif Nat.blt f 58 then (bif Nat.blt f 56 then hint55 else (bif Nat.blt f 57 then hint56 else [])) else (bif Nat.blt f 59 then [] else (bif Nat.blt f 60 then hint59 else hint60)))) else (bif Nat.blt f 67 then (bif Nat.blt f 64 then (bif Nat.blt f 62 then hint61 else (bif Nat.blt f 63 then [] else hint63)) else (bif Nat.blt f 65 then [] else (bif Nat.blt f 66 then hint65 else hint66))) else (bif Nat.blt f 70 then (bif Nat.blt f 68 then [] else (bif Nat.blt f 69 then [] else [])) else (bif Nat.blt f 72 then (bif Nat.blt f 71 then hint70 else []) else (bif Nat.blt f 73 then [] else hint73))))) else (bif Nat.blt f 86 then (bif Nat.blt f 80 then (bif Nat.blt f 77 then (bif Nat.blt f 75 then hint74 else (bif Nat.blt f 76 then hint75 else hint76)) else (bif Nat.blt f 78 then hint77 else (bif Nat.blt f 79 then [] else hint79))) else (bif Nat.blt f 83 then (bif Nat.blt f 81 then [] else (bif Nat.blt f 82 then [] else hint82)) else (bif Nat.blt f 84 then [] else (bif Nat.blt f 85 then [] else [])))) else (bif Nat.blt f 92 then (bif Nat.blt f 89 then (bif Nat.blt f 87 then hint86 else (bif Nat.blt f 88 then hint87 else hint88)) else (bif Nat.blt f 90 then hint89 else (bif Nat.blt f 91 then hint90 else hint91))) else (bif Nat.blt f 95 then (bif Nat.blt f 93 then [] else (bif Nat.blt f 94 then hint93 else hint94)) else (bif Nat.blt f 97 then (bif Nat.blt f 96 then hint95 else hint96) else (bif Nat.blt f 98 then [] else []))))))) else (bif Nat.blt f 149 then (bif Nat.blt f 124 then (bif Nat.blt f 111 then (bif Nat.blt f 105 then (bif Nat.blt f 102 then (bif Nat.blt f 100 then hint99 else (bif Nat.blt f 101 then hint100 else [])) else (bif Nat.blt f 103 then [] else (bif Nat.blt f 104 then [] else []))) else (bif Nat.blt f 108 then (bif Nat.blt f 106 then [] else (bif Nat.blt f 107 then hint106 else [])) else (bif Nat.blt f 109 then hint108 else (bif Nat.blt f 110 then [] else [])))) else (bif Nat.blt f 117 then (bif Nat.blt f 114 then (bif Nat.blt f 112 then [] else (bif Nat.blt f 113 then [] else hint113)) else (bif Nat.blt f 115 then [] else (bif Nat.blt f 116 then [] else []))) else (bif Nat.blt f 120 then (bif Nat.blt f 118 then [] else (bif Nat.blt f 119 then hint118 else hint119)) else (bif Nat.blt f 122 then (bif Nat.blt f 121 then [] else []) else (bif Nat.blt f 123 then [] else []))))) else (bif Nat.blt f 136 then (bif Nat.blt f 130 then (bif Nat.blt f 127 then (bif Nat.blt f 125 then [] else (bif Nat.blt f 126 then hint125 else [])) else (bif Nat.blt f 128 then [] else (bif Nat.blt f 129 then [] else []))) else (bif Nat.blt f 133 then (bif Nat.blt f 131 then [] else (bif Nat.blt f 132 then [] else [])) else (bif Nat.blt f 134 then [] else (bif Nat.blt f 135 then [] else hint135)))) else (bif Nat.blt f 142 then (bif Nat.blt f 139 then (bif Nat.blt f 137 then hint136 else (bif Nat.blt f 138 then hint137 else [])) else (bif Nat.blt f 140 then [] else (bif Nat.blt f 141 then [] else []))) else (bif Nat.blt f 145 then (bif Nat.blt f 143 then hint142 else (bif Nat.blt f 144 then [] else hint144)) else (bif Nat.blt f 147 then (bif Nat.blt f 146 then hint145 else []) else (bif Nat.blt f 148 then [] else hint148)))))) else (bif Nat.blt f 174 then (bif Nat.blt f 161 then (bif Nat.blt f 155 then (bif Nat.blt f 152 then (bif Nat.blt f 150 then [] else (bif Nat.blt f 151 then hint150 else [])) else (bif Nat.blt f 153 then [] else (bif Nat.blt f 154 then [] else []))) else (bif Nat.blt f 158 then (bif Nat.blt f 156 then hint155 else (bif Nat.blt f 157 then [] else [])) else (bif Nat.blt f 159 then [] else (bif Nat.blt f 160 then hint159 else [])))) else (bif Nat.blt f 167 then (bif Nat.blt f 164 then (bif Nat.blt f 162 then [] else (bif Nat.blt f 163 then hint162 else [])) else (bif Nat.blt f 165 then [] else (bif Nat.blt f 166 then [] else []))) else (bif Nat.blt f 170 then (bif Nat.blt f 168 then [] else (bif Nat.blt f 169 then hint168 else hint169)) else (bif Nat.blt f 172 then (bif Nat.blt f 171 then [] else []) else (bif Nat.blt f 173 then [] else []))))) else (bif Nat.blt f 186 then (bif Nat.blt f 180 then (bif Nat.blt f 177 then (bif Nat.blt f 175 then [] else (bif Nat.blt f 176 then [] else [])) else (bif Nat.blt f 178 then [] else (bif Nat.blt f 179 then [] else hint179))) else (bif Nat.blt f 183 then (bif Nat.blt f 181 then [] else (bif Nat.blt f 182 then hint181 else hint182)) else (bif Nat.blt f 184 then [] else (bif Nat.blt f 185 then [] else hint185)))) else (bif Nat.blt f 192 then (bif Nat.blt f 189 then (bif Nat.blt f 187 then hint186 else (bif Nat.blt f 188 then hint187 else hint188)) else (bif Nat.blt f 190 then hint189 else (bif Nat.blt f 191 then hint190 else hint191))) else (bif Nat.blt f 195 then (bif Nat.blt f 193 then hint192 else (bif Nat.blt f 194 then hint193 else hint194)) else (bif Nat.blt f 197 then (bif Nat.blt f 196 then hint195 else hint196) else (bif Nat.blt f 198 then hint197 else hint198)))))))) else (bif Nat.blt f 299 then (bif Nat.blt f 249 then (bif Nat.blt f 224 then (bif Nat.blt f 211 then (bif Nat.blt f 205 then (bif Nat.blt f 202 then (bif Nat.blt f 200 then hint199 else (bif Nat.blt f 201 then hint200 else [])) else (bif Nat.blt f 203 then hint202 else (bif Nat.blt f 204 then [] else []))) else (bif Nat.blt f 208 then (bif Nat.blt f 206 then [] else (bif Nat.blt f 207 then [] else [])) else (bif Nat.blt f 209 then [] else (bif Nat.blt f 210 then [] else hint210)))) else (bif Nat.blt f 217 then (bif Nat.blt f 214 then (bif Nat.blt f 212 then [] else (bif Nat.blt f 213 then hint212 else [])) else (bif Nat.blt f 215 then [] else (bif Nat.blt f 216 then [] else []))) else (bif Nat.blt f 220 then (bif Nat.blt f 218 then [] else (bif Nat.blt f 219 then hint218 else [])) else (bif Nat.blt f 222 then (bif Nat.blt f 221 then hint220 else []) else (bif Nat.blt f 223 then [] else hint223))))) else (bif Nat.blt f 236 then (bif Nat.blt f 230 then (bif Nat.blt f 227 then (bif Nat.blt f 225 then [] else (bif Nat.blt f 226 then [] else hint226)) else (bif Nat.blt f 228 then [] else (bif Nat.blt f 229 then [] else hint229))) else (bif Nat.blt f 233 then (bif Nat.blt f 231 then [] else (bif Nat.blt f 232 then [] else [])) else (bif Nat.blt f 234 then hint233 else (bif Nat.blt f 235 then [] else [])))) else (bif Nat.blt f 242 then (bif Nat.blt f 239 then (bif Nat.blt f 237 then hint236 else (bif Nat.blt f 238 then hint237 else [])) else (bif Nat.blt f 240 then [] else (bif Nat.blt f 241 then hint240 else hint241))) else (bif Nat.blt f 245 then (bif Nat.blt f 243 then [] else (bif Nat.blt f 244 then [] else [])) else (bif Nat.blt f 247 then (bif Nat.blt f 246 then [] else []) else (bif Nat.blt f 248 then [] else [])))))) else (bif Nat.blt f 274 then (bif Nat.blt f 261 then (bif Nat.blt f 255 then (bif Nat.blt f 252 then (bif Nat.blt f 250 then [] else (bif Nat.blt f 251 then [] else hint251)) else (bif Nat.blt f 253 then [] else (bif Nat.blt f 254 then [] else hint254))) else (bif Nat.blt f 258 then (bif Nat.blt f 256 then hint255 else (bif Nat.blt f 257 then [] else hint257)) else (bif Nat.blt f 259 then [] else (bif Nat.blt f 260 then hint259 else hint260)))) else (bif Nat.blt f 267 then (bif Nat.blt f 264 then (bif Nat.blt f 262 then hint261 else (bif Nat.blt f 263 then hint262 else [])) else (bif Nat.blt f 265 then [] else (bif Nat.blt f 266 then hint265 else []))) else (bif Nat.blt f 270 then (bif Nat.blt f 268 then [] else (bif Nat.blt f 269 then [] else [])) else (bif Nat.blt f 272 then (bif Nat.blt f 271 then [] else []) else (bif Nat.blt f 273 then [] else []))))) else (bif Nat.blt f 286 then (bif Nat.blt f 280 then (bif Nat.blt f 277 then (bif Nat.blt f 275 then [] else (bif Nat.blt f 276 then [] else hint276)) else (bif Nat.blt f 278 then [] else (bif Nat.blt f 279 then hint278 else []))) else (bif Nat.blt f 283 then (bif Nat.blt f 281 then [] else (bif Nat.blt f 282 then hint281 else hint282)) else (bif Nat.blt f 284 then [] else (bif Nat.blt f 285 then [] else [])))) else (bif Nat.blt f 292 then (bif Nat.blt f 289 then (bif Nat.blt f 287 then [] else (bif Nat.blt f 288 then [] else hint288)) else (bif Nat.blt f 290 then hint289 else (bif Nat.blt f 291 then hint290 else hint291))) else (bif Nat.blt f 295 then (bif Nat.blt f 293 then [] else (bif Nat.blt f 294 then hint293 else [])) else (bif Nat.blt f 297 then (bif Nat.blt f 296 then hint295 else hint296) else (bif Nat.blt f 298 then [] else []))))))) else (bif Nat.blt f 349 then (bif Nat.blt f 324 then (bif Nat.blt f 311 then (bif Nat.blt f 305 then (bif Nat.blt f 302 then (bif Nat.blt f 300 then [] else (bif Nat.blt f 301 then hint300 else [])) else (bif Nat.blt f 303 then [] else (bif Nat.blt f 304 then [] else []))) else (bif Nat.blt f 308 then (bif Nat.blt f 306 then [] else (bif Nat.blt f 307 then [] else [])) else (bif Nat.blt f 309 then hint308 else (bif Nat.blt f 310 then [] else [])))) else (bif Nat.blt f 317 then (bif Nat.blt f 314 then (bif Nat.blt f 312 then [] else (bif Nat.blt f 313 then hint312 else [])) else (bif Nat.blt f 315 then [] else (bif Nat.blt f 316 then [] else []))) else (bif Nat.blt f 320 then (bif Nat.blt f 318 then hint317 else (bif Nat.blt f 319 then hint318 else hint319)) else (bif Nat.blt f 322 then (bif Nat.blt f 321 then [] else hint321) else (bif Nat.blt f 323 then hint322 else hint323))))) else (bif Nat.blt f 336 then (bif Nat.blt f 330 then (bif Nat.blt f 327 then (bif Nat.blt f 325 then hint324 else (bif Nat.blt f 326 then [] else [])) else (bif Nat.blt f 328 then [] else (bif Nat.blt f 329 then hint328 else hint329))) else (bif Nat.blt f 333 then (bif Nat.blt f 331 then hint330 else (bif Nat.blt f 332 then hint331 else hint332)) else (bif Nat.blt f 334 then [] else (bif Nat.blt f 335 then [] else [])))) else (bif Nat.blt f 342 then (bif Nat.blt f 339 then (bif Nat.blt f 337 then hint336 else (bif Nat.blt f 338 then [] else [])) else (bif Nat.blt f 340 then [] else (bif Nat.blt f 341 then hint340 else hint341))) else (bif Nat.blt f 345 then (bif Nat.blt f 343 then hint342 else (bif Nat.blt f 344 then hint343 else hint344)) else (bif Nat.blt f 347 then (bif Nat.blt f 346 then [] else []) else (bif Nat.blt f 348 then [] else [])))))) else (bif Nat.blt f 374 then (bif Nat.blt f 361 then (bif Nat.blt f 355 then (bif Nat.blt f 352 then (bif Nat.blt f 350 then [] else (bif Nat.blt f 351 then [] else [])) else (bif Nat.blt f 353 then [] else (bif Nat.blt f 354 then [] else []))) else (bif Nat.blt f 358 then (bif Nat.blt f 356 then [] else (bif Nat.blt f 357 then [] else [])) else (bif Nat.blt f 359 then [] else (bif Nat.blt f 360 then [] else [])))) else (bif Nat.blt f 367 then (bif Nat.blt f 364 then (bif Nat.blt f 362 then hint361 else (bif Nat.blt f 363 then hint362 else hint363)) else (bif Nat.blt f 365 then [] else (bif Nat.blt f 366 then hint365 else hint366))) else (bif Nat.blt f 370 then (bif Nat.blt f 368 then hint367 else (bif Nat.blt f 369 then hint368 else hint369)) else (bif Nat.blt f 372 then (bif Nat.blt f 371 then hint370 else hint371) else (bif Nat.blt f 373 then hint372 else hint373))))) else (bif Nat.blt f 386 then (bif Nat.blt f 380 then (bif Nat.blt f 377 then (bif Nat.blt f 375 then [] else (bif Nat.blt f 376 then [] else hint376)) else (bif Nat.blt f 378 then [] else (bif Nat.blt f 379 then [] else []))) else (bif Nat.blt f 383 then (bif Nat.blt f 381 then hint380 else (bif Nat.blt f 382 then [] else hint382)) else (bif Nat.blt f 384 then [] else (bif Nat.blt f 385 then [] else [])))) else (bif Nat.blt f 392 then (bif Nat.blt f 389 then (bif Nat.blt f 387 then [] else (bif Nat.blt f 388 then [] else [])) else (bif Nat.blt f 390 then [] else (bif Nat.blt f 391 then [] else []))) else (bif Nat.blt f 395 then (bif Nat.blt f 393 then [] else (bif Nat.blt f 394 then [] else [])) else (bif Nat.blt f 397 then (bif Nat.blt f 396 then [] else []) else (bif Nat.blt f 398 then [] else [])))))))))
def byRefTab (f : Nat) : Bool := [35, 36, 44, 61, 69, 86, 87, 88, 89, 90, 91, 93, 94, 108, 125, 128, 129, 136, 137, 151, 152, 156, 159, 167, 168, 169, 179, 185, 186, 187, 188, 189, 190, 191, 192, 193, 194, 195, 196, 197, 198, 199, 200, 220, 221, 222, 223, 224, 225, 230, 231, 238, 239, 243, 246, 264, 267, 280, 286, 288, 293, 295, 302, 303, 314, 325, 331, 332, 337, 340, 341, 342, 343, 344].contains f
end Go.Ab

/- What book's variables hold. -/
namespace Go.Ab
open Go
def vU32 (n : Nat) : V := .int .u32 n
def vU8 (n : Nat) : V := .int .u8 n
def firstN : List Nat := [0x6a09e667, 0xbb67ae85, 0x3c6ef372, 0xa54ff53a, 0x510e527f, 0x9b05688c, 0x1f83d9ab, 0x5be0cd19]
def orderN : List (List Nat) := [
  [0, 1, 2, 3, 4, 5, 6, 7, 8, 9, 10, 11, 12, 13, 14, 15],
  [14, 10, 4, 8, 9, 15, 13, 6, 1, 12, 0, 2, 11, 7, 5, 3],
  [11, 8, 12, 0, 5, 2, 15, 13, 10, 14, 3, 6, 7, 1, 9, 4],
  [7, 9, 3, 1, 13, 12, 11, 14, 2, 6, 5, 10, 4, 0, 15, 8],
  [9, 0, 5, 7, 2, 4, 10, 15, 14, 1, 11, 12, 6, 8, 3, 13],
  [2, 12, 6, 10, 0, 11, 8, 3, 4, 13, 7, 5, 15, 14, 1, 9],
  [12, 5, 1, 15, 14, 13, 4, 10, 0, 7, 6, 3, 9, 2, 8, 11],
  [13, 11, 7, 14, 12, 1, 3, 9, 5, 0, 15, 4, 8, 6, 2, 10],
  [6, 15, 14, 9, 11, 3, 0, 8, 12, 2, 13, 7, 1, 4, 10, 5],
  [10, 2, 8, 4, 7, 6, 1, 5, 15, 11, 9, 14, 3, 12, 13, 0]]
def quartersN : List (List Nat) := [[0, 4, 8, 12], [1, 5, 9, 13], [2, 6, 10, 14], [3, 7, 11, 15], [0, 5, 10, 15], [1, 6, 11, 12], [2, 7, 8, 13], [3, 4, 9, 14]]
def pow10N : List Int := (List.range 20).map fun i => ((10 ^ i : Nat) : Int)
def globTab (g : Nat) : Option (List V) :=
  bif g == 0 then some (firstN.map vU32) else bif g == 1 then some (orderN.flatten.map vU8) else bif g == 2 then some (quartersN.flatten.map vU8) else bif g == 3 then some (pow10N.map fun n => V.int .u64 n) else none
instance : Globs := { tab := globTab, counts := False }
noncomputable def modeO (frc : Bool) : Mode := { P := Go.Proofs.Tryz.prog, byRef := byRefTab, hints := fun f k => (hintTab f).lookup k, frc := frc }
end Go.Ab

/- What book.block computes. Made by a program. -/
namespace Go.Ab
open Go
def codeAt : List Nat → Code → Code
  | [], b => b
  | 0 :: p, .seq a _ => codeAt p a
  | 1 :: p, .seq _ b => codeAt p b
  | 0 :: p, .cond _ a _ => codeAt p a
  | 1 :: p, .cond _ _ b => codeAt p b
  | _ :: p, .block _ b => codeAt p b
  | _ :: p, .loop b => codeAt p b
  | _, b => b
noncomputable def bodyO (f : Nat) : Code := ((Go.Proofs.Tryz.prog.funcs[f]?).bind fun fn => fn.body).getD .skip
noncomputable abbrev MO : Mode := modeO false
noncomputable abbrev cO : CallerK := evT MO [] [64, 101, 134] 5
/-- What stands behind a body. -/
noncomputable def finK (f : FuncId) (k0 : Nat) : Ex → Env → Sto → Option (D × Sto) := fun e env σ' =>
  noExit e (((MO.P.funcs[f]?).bind fun fn => resultsOf MO.P env σ' fn.results.toList).bind fun res => finishK false k0 res σ' fun d σ => some (d, σ))
abbrev I32 (n : Int) : D := .v (.int .u32 n)
abbrev I8 (n : Int) : D := .v (.int .u8 n)
abbrev I64 (n : Int) : D := .v (.int .i64 n)
abbrev U64 (n : Int) : D := .v (.int .u64 n)
def add32 (a b : Int) : Int := IntKind.u32.wrap (a + b)
def xor32 (a b : Int) : Int := IntKind.u32.wrap ((BitVec.ofInt IntKind.u32.bits a ^^^ BitVec.ofInt IntKind.u32.bits b).toNat)
def or32 (a b : Int) : Int := IntKind.u32.wrap ((BitVec.ofInt IntKind.u32.bits a ||| BitVec.ofInt IntKind.u32.bits b).toNat)
def shl32 (a : Int) (k : Nat) : Int := IntKind.u32.wrap (a * 2 ^ min k IntKind.u32.bits)
def sh32 (k : Int) : Int := (IntKind.u64.wrap ((BitVec.ofInt IntKind.u64.bits (IntKind.u64.wrap k) &&& BitVec.ofInt IntKind.u64.bits 31).toNat : Int))
def rotl32 (x k : Int) : Int := IntKind.u32.wrap ((BitVec.ofInt IntKind.u32.bits (IntKind.u32.wrap (x * 2 ^ min (sh32 k).toNat IntKind.u32.bits)) ||| BitVec.ofInt IntKind.u32.bits (x.fdiv (2 ^ min (IntKind.u64.wrap (32 - sh32 k)).toNat IntKind.u32.bits))).toNat)
def rotr32 (x n : Int) : Int := rotl32 x (IntKind.i64.wrap (-n))
def gA (a b x : Int) := add32 a (add32 b x)
def gD (d a n : Int) := rotr32 (xor32 d a) n
def mix4 (x y : Int) (a b c d : Int) : Int × Int × Int × Int :=
  let a1 := gA a b x
  let d1 := gD d a1 16
  let c1 := add32 c d1
  let b1 := gD b c1 12
  let a2 := gA a1 b1 y
  let d2 := gD d1 a2 8
  let c2 := add32 c1 d2
  let b2 := gD b1 c2 7
  (a2, b2, c2, d2)
/-- Four words of a state mixed. -/
def mixL (at_ : List Nat) (x y : Int) (v : List Int) : List Int :=
  let g := mix4 x y (v.getD (at_.getD 0 0) 0) (v.getD (at_.getD 1 0) 0) (v.getD (at_.getD 2 0) 0) (v.getD (at_.getD 3 0) 0)
  (((v.set (at_.getD 0 0) g.1).set (at_.getD 1 0) g.2.1).set (at_.getD 2 0) g.2.2.1).set (at_.getD 3 0) g.2.2.2
def roundGo (m : List Int) : List (List Nat) → List Nat → List Int → List Int
  | q :: qs, a :: b :: s, v => roundGo m qs s (mixL q (m.getD a 0) (m.getD b 0) v)
  | _, _, v => v
def roundL (m : List Int) (r : Nat) (v : List Int) : List Int := roundGo m quartersN (orderN.getD r []) v
def orderD : List D := (orderN.flatten.map vU8).map ofV
def zD : List D := List.replicate 8 (I32 0)
def envC (r : Int) : Env := [(4, .ptr 0 0), (8, .ptr 1 0), (9, .ptr 2 0), (11, .ptr 3 0), (71, .agg orderD), (72, I64 r)]
def envA (s : ByteArray) (e : Int) (l : Bool) (i : Int) : Env := [(1, .v (.str s)), (2, U64 e), (3, .v (.bool l)), (4, .ptr 0 0), (8, .ptr 1 0), (9, .ptr 2 0), (19, I64 s.size), (20, I64 i)]
/-- A byte goes into its word. -/
def putByte (i : Nat) (b : UInt8) (m : List Int) : List Int := m.set (i / 4) (or32 (m.getD (i / 4) 0) (shl32 (IntKind.u32.wrap b.toNat) (8 * (i % 4))))
set_option maxRecDepth 100000
noncomputable abbrev blkA (lp : Looper) : Env → Sto → Option Out := fun env σ => evC MO cO lp (MO.hints 38) 0 (codeAt [1,1,0,1,0,0] (bodyO 38)) env σ (stop [1, 2, 3, 4, 8, 9, 19, 20])
noncomputable abbrev blkB (lp : Looper) : Env → Sto → Option Out := fun env σ => evC MO cO lp (MO.hints 38) 0 (codeAt [1,1,1,1,0,1,0,0] (bodyO 38)) env σ (stop [2, 3, 4, 8, 9, 11, 38])
noncomputable abbrev blkC (lp : Looper) : Env → Sto → Option Out := fun env σ => evC MO cO lp (MO.hints 38) 0 (codeAt [1,1,1,1,1,1,1,1,0,1,0,0] (bodyO 38)) env σ (stop [4, 8, 9, 11, 71, 72])
noncomputable abbrev blkD (lp : Looper) : Env → Sto → Option Out := fun env σ => evC MO cO lp (MO.hints 38) 0 (codeAt [1,1,1,1,1,1,1,1,1,0,1,0,0] (bodyO 38)) env σ (stop [4, 8, 11, 98])
noncomputable abbrev contC (lp : Looper) (id : Nat) (p : List Nat) (o : Out) : Option (D × Sto) :=
  inBlock id o.1 fun e => onEx e (evC MO cO lp (MO.hints 38) 0 (codeAt p (bodyO 38)) o.2.1 o.2.2 (finK 38 0)) fun e => finK 38 0 e o.2.1 o.2.2

theorem stepA (lp : Looper) (s : ByteArray) (e : Int) (l : Bool) (h0 h1 h2 h3 h4 h5 h6 h7 : Int) : evBody MO cO lp 38 [.agg (List.map I32 [h0, h1, h2, h3, h4, h5, h6, h7]), .v (.str s), U64 e, .v (.bool l)] [] =
    (lp 3 0 (blkA lp) (envA s e l 0) [.box 82 (List.map I32 [h0, h1, h2, h3, h4, h5, h6, h7]), .box 82 zD, .box 117 (List.replicate 16 (I32 0))]).bind (contC lp 0 [1,1,1]) := by kernel_rfl
def envB (e : Int) (l : Bool) (i : Int) : Env := [(2, U64 e), (3, .v (.bool l)), (4, .ptr 0 0), (8, .ptr 1 0), (9, .ptr 2 0), (11, .ptr 3 0), (38, I64 i)]
theorem stepB (lp : Looper) (s : ByteArray) (e i : Int) (l : Bool) (h0 h1 h2 h3 h4 h5 h6 h7 m0 m1 m2 m3 m4 m5 m6 m7 m8 m9 m10 m11 m12 m13 m14 m15 : Int) : contC lp 0 [1,1,1] (.exit 0, envA s e l i, [.box 82 (List.map I32 [h0, h1, h2, h3, h4, h5, h6, h7]), .box 82 zD, .box 117 (List.map I32 [m0, m1, m2, m3, m4, m5, m6, m7, m8, m9, m10, m11, m12, m13, m14, m15])]) =
    (lp 9 0 (blkB lp) (envB e l 0) [.box 82 (List.map I32 [h0, h1, h2, h3, h4, h5, h6, h7]), .box 82 zD, .box 117 (List.map I32 [m0, m1, m2, m3, m4, m5, m6, m7, m8, m9, m10, m11, m12, m13, m14, m15]), .box 117 (List.replicate 16 (I32 0))]).bind (contC lp 2 [1,1,1,1,1]) := by kernel_rfl
theorem loopB (n : Nat) (lp : Looper) (e : Int) (l : Bool) (h0 h1 h2 h3 h4 h5 h6 h7 m0 m1 m2 m3 m4 m5 m6 m7 m8 m9 m10 m11 m12 m13 m14 m15 : Int) : loopN 0 (blkB lp) (n + 9) (envB e l 0) [.box 82 (List.map I32 [h0, h1, h2, h3, h4, h5, h6, h7]), .box 82 zD, .box 117 (List.map I32 [m0, m1, m2, m3, m4, m5, m6, m7, m8, m9, m10, m11, m12, m13, m14, m15]), .box 117 (List.replicate 16 (I32 0))] =
    some (.exit 2, envB e l 8, [.box 82 (List.map I32 [h0, h1, h2, h3, h4, h5, h6, h7]), .box 82 zD, .box 117 (List.map I32 [m0, m1, m2, m3, m4, m5, m6, m7, m8, m9, m10, m11, m12, m13, m14, m15]), .box 117 (List.map I32 ([h0, h1, h2, h3, h4, h5, h6, h7] ++ firstN.map Int.ofNat))]) := by kernel_rfl
/-- What the rounds begin with. -/
def vOf (h : List Int) (e : Int) (l : Bool) : List Int :=
  let v := h ++ firstN.map Int.ofNat
  let v := v.set 12 (xor32 (v.getD 12 0) (IntKind.u32.wrap e))
  let v := v.set 13 (xor32 (v.getD 13 0) (IntKind.u32.wrap (e.fdiv (2 ^ min 32 IntKind.u64.bits))))
  bif l then v.set 14 (xor32 (v.getD 14 0) 4294967295) else v
theorem stepCt (lp : Looper) (e i : Int) (h0 h1 h2 h3 h4 h5 h6 h7 m0 m1 m2 m3 m4 m5 m6 m7 m8 m9 m10 m11 m12 m13 m14 m15 : Int) : contC lp 2 [1,1,1,1,1] (.exit 2, envB e true i, [.box 82 (List.map I32 [h0, h1, h2, h3, h4, h5, h6, h7]), .box 82 zD, .box 117 (List.map I32 [m0, m1, m2, m3, m4, m5, m6, m7, m8, m9, m10, m11, m12, m13, m14, m15]), .box 117 (List.map I32 ([h0, h1, h2, h3, h4, h5, h6, h7] ++ firstN.map Int.ofNat))]) =
    (lp 18 0 (blkC lp) (envC 0) [.box 82 (List.map I32 [h0, h1, h2, h3, h4, h5, h6, h7]), .box 82 zD, .box 117 (List.map I32 [m0, m1, m2, m3, m4, m5, m6, m7, m8, m9, m10, m11, m12, m13, m14, m15]), .box 117 (List.map I32 (vOf [h0, h1, h2, h3, h4, h5, h6, h7] e true))]).bind (contC lp 4 [1,1,1,1,1,1,1,1,1]) := by kernel_rfl
theorem stepCf (lp : Looper) (e i : Int) (h0 h1 h2 h3 h4 h5 h6 h7 m0 m1 m2 m3 m4 m5 m6 m7 m8 m9 m10 m11 m12 m13 m14 m15 : Int) : contC lp 2 [1,1,1,1,1] (.exit 2, envB e false i, [.box 82 (List.map I32 [h0, h1, h2, h3, h4, h5, h6, h7]), .box 82 zD, .box 117 (List.map I32 [m0, m1, m2, m3, m4, m5, m6, m7, m8, m9, m10, m11, m12, m13, m14, m15]), .box 117 (List.map I32 ([h0, h1, h2, h3, h4, h5, h6, h7] ++ firstN.map Int.ofNat))]) =
    (lp 18 0 (blkC lp) (envC 0) [.box 82 (List.map I32 [h0, h1, h2, h3, h4, h5, h6, h7]), .box 82 zD, .box 117 (List.map I32 [m0, m1, m2, m3, m4, m5, m6, m7, m8, m9, m10, m11, m12, m13, m14, m15]), .box 117 (List.map I32 (vOf [h0, h1, h2, h3, h4, h5, h6, h7] e false))]).bind (contC lp 4 [1,1,1,1,1,1,1,1,1]) := by kernel_rfl
def envD (i : Int) : Env := [(4, .ptr 0 0), (8, .ptr 1 0), (11, .ptr 2 0), (98, I64 i)]
theorem stepD (lp : Looper) (h0 h1 h2 h3 h4 h5 h6 h7 m0 m1 m2 m3 m4 m5 m6 m7 m8 m9 m10 m11 m12 m13 m14 m15 v0 v1 v2 v3 v4 v5 v6 v7 v8 v9 v10 v11 v12 v13 v14 v15 : Int) : contC lp 4 [1,1,1,1,1,1,1,1,1] (.exit 4, envC 10, [.box 82 (List.map I32 [h0, h1, h2, h3, h4, h5, h6, h7]), .box 82 zD, .box 117 (List.map I32 [m0, m1, m2, m3, m4, m5, m6, m7, m8, m9, m10, m11, m12, m13, m14, m15]), .box 117 (List.map I32 [v0, v1, v2, v3, v4, v5, v6, v7, v8, v9, v10, v11, v12, v13, v14, v15])]) =
    (lp 27 0 (blkD lp) [(4, .ptr 0 0), (8, .ptr 1 0), (11, .ptr 3 0), (98, I64 0)] [.box 82 (List.map I32 [h0, h1, h2, h3, h4, h5, h6, h7]), .box 82 zD, .box 117 (List.map I32 [m0, m1, m2, m3, m4, m5, m6, m7, m8, m9, m10, m11, m12, m13, m14, m15]), .box 117 (List.map I32 [v0, v1, v2, v3, v4, v5, v6, v7, v8, v9, v10, v11, v12, v13, v14, v15])]).bind (contC lp 8 [1,1,1,1,1,1,1,1,1,1]) := by kernel_rfl
/-- The end: the halves are folded into the old state. -/
def endL (h v : List Int) : List Int := (List.range 8).map fun i => xor32 (h.getD i 0) (xor32 (v.getD i 0) (v.getD (i + 8) 0))
theorem loopD (n : Nat) (lp : Looper) (h0 h1 h2 h3 h4 h5 h6 h7 m0 m1 m2 m3 m4 m5 m6 m7 m8 m9 m10 m11 m12 m13 m14 m15 v0 v1 v2 v3 v4 v5 v6 v7 v8 v9 v10 v11 v12 v13 v14 v15 : Int) : loopN 0 (blkD lp) (n + 9) [(4, .ptr 0 0), (8, .ptr 1 0), (11, .ptr 3 0), (98, I64 0)] [.box 82 (List.map I32 [h0, h1, h2, h3, h4, h5, h6, h7]), .box 82 zD, .box 117 (List.map I32 [m0, m1, m2, m3, m4, m5, m6, m7, m8, m9, m10, m11, m12, m13, m14, m15]), .box 117 (List.map I32 [v0, v1, v2, v3, v4, v5, v6, v7, v8, v9, v10, v11, v12, v13, v14, v15])] =
    some (.exit 8, envD 8, [.box 82 (List.map I32 (endL [h0, h1, h2, h3, h4, h5, h6, h7] [v0, v1, v2, v3, v4, v5, v6, v7, v8, v9, v10, v11, v12, v13, v14, v15])), .box 82 zD, .box 117 (List.map I32 [v0, v1, v2, v3, v4, v5, v6, v7, v8, v9, v10, v11, v12, v13, v14, v15])]) := by kernel_rfl
theorem stepE (lp : Looper) (i : Int) (h0 h1 h2 h3 h4 h5 h6 h7 v0 v1 v2 v3 v4 v5 v6 v7 v8 v9 v10 v11 v12 v13 v14 v15 : Int) : contC lp 8 [1,1,1,1,1,1,1,1,1,1] (.exit 8, envD i, [.box 82 (List.map I32 [h0, h1, h2, h3, h4, h5, h6, h7]), .box 82 zD, .box 117 (List.map I32 [v0, v1, v2, v3, v4, v5, v6, v7, v8, v9, v10, v11, v12, v13, v14, v15])]) = some (.agg (List.map I32 [h0, h1, h2, h3, h4, h5, h6, h7]), []) := by kernel_rfl

end Go.Ab
