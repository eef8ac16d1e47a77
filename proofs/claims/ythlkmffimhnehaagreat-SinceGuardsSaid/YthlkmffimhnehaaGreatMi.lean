/- SinceGuards: its run, cut where the numbers have been reduced; no condition. -/
import Derived.Test.YthlkmffimhnehaaGreatY0
import Derived.Test.YthlkmffimhnehaaGreatY1
import Derived.Test.YthlkmffimhnehaaGreatY2
import Derived.Test.YthlkmffimhnehaaGreatYi0
import Derived.Test.YthlkmffimhnehaaGreatYi1
import Derived.Test.YthlkmffimhnehaaGreatYi2
import Derived.Test.YthlkmffimhnehaaGreatMh
import Derived.Test.YthlkmffimhnehaaGreatMf
namespace Go.Proofs.YthlkmffimhnehaaGreat
open Go Go.Ev
set_option maxRecDepth 10000
def fxT : Tr XF := (.node none (.node none (.node none (.node none (.node none (.node none (.node (some x63) (.node (some x127) (.node (some x255) .nil .nil) .nil) (.node none (.node none .nil .nil) .nil)) (.node (some x95) (.node none (.node none .nil .nil) .nil) (.node none (.node none .nil .nil) .nil))) (.node (some x47) (.node none (.node none (.node none .nil .nil) .nil) (.node (some x207) (.node none .nil .nil) .nil)) (.node none (.node (some x175) (.node (some x303) .nil .nil) .nil) (.node none (.node (some x367) .nil .nil) .nil)))) (.node (some x23) (.node (some x39) (.node none (.node (some x135) (.node none .nil .nil) .nil) (.node (some x199) (.node none .nil .nil) .nil)) (.node (some x103) (.node (some x167) (.node (some x295) .nil .nil) .nil) (.node none (.node none .nil .nil) .nil))) (.node none (.node (some x87) (.node none (.node none .nil .nil) .nil) (.node none (.node (some x343) .nil .nil) .nil)) (.node none (.node (some x183) (.node (some x311) .nil .nil) .nil) (.node (some x247) (.node (some x375) .nil .nil) .nil))))) (.node none (.node none (.node none (.node none (.node (some x131) (.node (some x259) .nil .nil) .nil) (.node (some x195) (.node none .nil .nil) .nil)) (.node (some x99) (.node (some x163) (.node none .nil .nil) .nil) (.node none (.node none .nil .nil) .nil))) (.node (some x51) (.node (some x83) (.node none (.node none .nil .nil) .nil) (.node none (.node (some x339) .nil .nil) .nil)) (.node none (.node (some x179) (.node (some x307) .nil .nil) .nil) (.node (some x243) (.node (some x371) .nil .nil) .nil)))) (.node none (.node (some x43) (.node none (.node (some x139) (.node none .nil .nil) .nil) (.node (some x203) (.node none .nil .nil) .nil)) (.node none (.node (some x171) (.node (some x299) .nil .nil) .nil) (.node none (.node (some x363) .nil .nil) .nil))) (.node (some x59) (.node (some x91) (.node none (.node none .nil .nil) .nil) (.node none (.node none .nil .nil) .nil)) (.node (some x123) (.node (some x187) (.node none .nil .nil) .nil) (.node (some x251) .nil .nil)))))) (.node none (.node none (.node none (.node none (.node (some x65) (.node (some x129) (.node (some x257) .nil .nil) .nil) (.node none (.node none .nil .nil) .nil)) (.node (some x97) (.node none (.node none .nil .nil) .nil) (.node none (.node none .nil .nil) .nil))) (.node (some x49) (.node none (.node none (.node none .nil .nil) .nil) (.node none (.node none .nil .nil) .nil)) (.node none (.node (some x177) (.node none .nil .nil) .nil) (.node none (.node (some x369) .nil .nil) .nil)))) (.node (some x25) (.node (some x41) (.node none (.node (some x137) (.node none .nil .nil) .nil) (.node (some x201) (.node none .nil .nil) .nil)) (.node (some x105) (.node (some x169) (.node (some x297) .nil .nil) .nil) (.node none (.node (some x361) .nil .nil) .nil))) (.node none (.node (some x89) (.node none (.node none .nil .nil) .nil) (.node none (.node none .nil .nil) .nil)) (.node (some x121) (.node (some x185) (.node (some x313) .nil .nil) .nil) (.node (some x249) (.node (some x377) .nil .nil) .nil))))) (.node none (.node (some x21) (.node none (.node none (.node (some x133) (.node (some x261) .nil .nil) .nil) (.node (some x197) (.node none .nil .nil) .nil)) (.node (some x101) (.node (some x165) (.node (some x293) .nil .nil) .nil) (.node none (.node none .nil .nil) .nil))) (.node (some x53) (.node (some x85) (.node none (.node none .nil .nil) .nil) (.node none (.node (some x341) .nil .nil) .nil)) (.node none (.node (some x181) (.node (some x309) .nil .nil) .nil) (.node (some x245) (.node (some x373) .nil .nil) .nil)))) (.node none (.node (some x45) (.node none (.node none (.node none .nil .nil) .nil) (.node (some x205) (.node none .nil .nil) .nil)) (.node none (.node (some x173) (.node (some x301) .nil .nil) .nil) (.node none (.node none .nil .nil) .nil))) (.node (some x61) (.node (some x93) (.node none (.node none .nil .nil) .nil) (.node none (.node none .nil .nil) .nil)) (.node (some x125) (.node none (.node none .nil .nil) .nil) (.node (some x253) .nil .nil))))))) (.node none (.node (some x4) (.node none (.node none (.node (some x32) (.node (some x64) (.node (some x128) (.node (some x256) .nil .nil) .nil) (.node none (.node none .nil .nil) .nil)) (.node (some x96) (.node none (.node none .nil .nil) .nil) (.node none (.node none .nil .nil) .nil))) (.node (some x48) (.node none (.node none (.node none .nil .nil) .nil) (.node none (.node none .nil .nil) .nil)) (.node none (.node (some x176) (.node none .nil .nil) .nil) (.node none (.node (some x368) .nil .nil) .nil)))) (.node (some x24) (.node (some x40) (.node none (.node (some x136) (.node none .nil .nil) .nil) (.node (some x200) (.node none .nil .nil) .nil)) (.node (some x104) (.node (some x168) (.node (some x296) .nil .nil) .nil) (.node none (.node none .nil .nil) .nil))) (.node (some x56) (.node (some x88) (.node none (.node none .nil .nil) .nil) (.node none (.node (some x344) .nil .nil) .nil)) (.node none (.node (some x184) (.node (some x312) .nil .nil) .nil) (.node (some x248) (.node (some x376) .nil .nil) .nil))))) (.node none (.node (some x20) (.node none (.node none (.node (some x132) (.node (some x260) .nil .nil) .nil) (.node (some x196) (.node none .nil .nil) .nil)) (.node (some x100) (.node (some x164) (.node none .nil .nil) .nil) (.node none (.node none .nil .nil) .nil))) (.node (some x52) (.node (some x84) (.node none (.node none .nil .nil) .nil) (.node none (.node (some x340) .nil .nil) .nil)) (.node none (.node (some x180) (.node (some x308) .nil .nil) .nil) (.node (some x244) (.node (some x372) .nil .nil) .nil)))) (.node none (.node (some x44) (.node none (.node none (.node none .nil .nil) .nil) (.node (some x204) (.node none .nil .nil) .nil)) (.node none (.node (some x172) (.node (some x300) .nil .nil) .nil) (.node none (.node none .nil .nil) .nil))) (.node none (.node (some x92) (.node none (.node none .nil .nil) .nil) (.node none (.node none .nil .nil) .nil)) (.node (some x124) (.node (some x188) (.node none .nil .nil) .nil) (.node none .nil .nil)))))) (.node (some x6) (.node none (.node (some x18) (.node none (.node (some x66) (.node (some x130) (.node (some x258) .nil .nil) .nil) (.node (some x194) (.node none .nil .nil) .nil)) (.node (some x98) (.node none (.node none .nil .nil) .nil) (.node none (.node none .nil .nil) .nil))) (.node (some x50) (.node none (.node none (.node none .nil .nil) .nil) (.node none (.node (some x338) .nil .nil) .nil)) (.node none (.node (some x178) (.node none .nil .nil) .nil) (.node none (.node (some x370) .nil .nil) .nil)))) (.node none (.node (some x42) (.node none (.node (some x138) (.node none .nil .nil) .nil) (.node (some x202) (.node none .nil .nil) .nil)) (.node (some x106) (.node (some x170) (.node (some x298) .nil .nil) .nil) (.node none (.node (some x362) .nil .nil) .nil))) (.node none (.node (some x90) (.node none (.node none .nil .nil) .nil) (.node none (.node none .nil .nil) .nil)) (.node (some x122) (.node (some x186) (.node none .nil .nil) .nil) (.node (some x250) .nil .nil))))) (.node none (.node (some x22) (.node none (.node none (.node (some x134) (.node none .nil .nil) .nil) (.node (some x198) (.node none .nil .nil) .nil)) (.node (some x102) (.node (some x166) (.node (some x294) .nil .nil) .nil) (.node none (.node none .nil .nil) .nil))) (.node none (.node (some x86) (.node none (.node none .nil .nil) .nil) (.node none (.node (some x342) .nil .nil) .nil)) (.node none (.node (some x182) (.node (some x310) .nil .nil) .nil) (.node (some x246) (.node (some x374) .nil .nil) .nil)))) (.node none (.node (some x46) (.node none (.node none (.node none .nil .nil) .nil) (.node (some x206) (.node none .nil .nil) .nil)) (.node none (.node (some x174) (.node (some x302) .nil .nil) .nil) (.node none (.node (some x366) .nil .nil) .nil))) (.node (some x62) (.node (some x94) (.node none (.node none .nil .nil) .nil) (.node none (.node none .nil .nil) .nil)) (.node (some x126) (.node none (.node none .nil .nil) .nil) (.node (some x254) .nil .nil))))))))
end Go.Proofs.YthlkmffimhnehaaGreat
namespace Go.Proofs.YthlkmffimhnehaaGreat
open Go Go.Ev
set_option maxRecDepth 10000
def fxL : List (Nat × XF) := [(63, x63), (127, x127), (255, x255), (95, x95), (47, x47), (207, x207), (175, x175), (303, x303), (367, x367), (23, x23), (39, x39), (135, x135), (199, x199), (103, x103), (167, x167), (295, x295), (87, x87), (343, x343), (183, x183), (311, x311), (247, x247), (375, x375), (131, x131), (259, x259), (195, x195), (99, x99), (163, x163), (51, x51), (83, x83), (339, x339), (179, x179), (307, x307), (243, x243), (371, x371), (43, x43), (139, x139), (203, x203), (171, x171), (299, x299), (363, x363), (59, x59), (91, x91), (123, x123), (187, x187), (251, x251), (65, x65), (129, x129), (257, x257), (97, x97), (49, x49), (177, x177), (369, x369), (25, x25), (41, x41), (137, x137), (201, x201), (105, x105), (169, x169), (297, x297), (361, x361), (89, x89), (121, x121), (185, x185), (313, x313), (249, x249), (377, x377), (21, x21), (133, x133), (261, x261), (197, x197), (101, x101), (165, x165), (293, x293), (53, x53), (85, x85), (341, x341), (181, x181), (309, x309), (245, x245), (373, x373), (45, x45), (205, x205), (173, x173), (301, x301), (61, x61), (93, x93), (125, x125), (253, x253), (4, x4), (32, x32), (64, x64), (128, x128), (256, x256), (96, x96), (48, x48), (176, x176), (368, x368), (24, x24), (40, x40), (136, x136), (200, x200), (104, x104), (168, x168), (296, x296), (56, x56), (88, x88), (344, x344), (184, x184), (312, x312), (248, x248), (376, x376), (20, x20), (132, x132), (260, x260), (196, x196), (100, x100), (164, x164), (52, x52), (84, x84), (340, x340), (180, x180), (308, x308), (244, x244), (372, x372), (44, x44), (204, x204), (172, x172), (300, x300), (92, x92), (124, x124), (188, x188), (6, x6), (18, x18), (66, x66), (130, x130), (258, x258), (194, x194), (98, x98), (50, x50), (338, x338), (178, x178), (370, x370), (42, x42), (138, x138), (202, x202), (106, x106), (170, x170), (298, x298), (362, x362), (90, x90), (122, x122), (186, x186), (250, x250), (22, x22), (134, x134), (198, x198), (102, x102), (166, x166), (294, x294), (86, x86), (342, x342), (182, x182), (310, x310), (246, x246), (374, x374), (46, x46), (206, x206), (174, x174), (302, x302), (366, x366), (62, x62), (94, x94), (126, x126), (254, x254)]
theorem fxL_eq : Tr.toL fxT 1 0 = fxL := by kernel_rfl
theorem fxL_ok : ∀ p ∈ fxL, ∃ fn kd, Tryz.prog.funcs[p.1]? = some fn ∧ compF tyT.get kd fn = some p.2 :=
  List.forall_mem_cons.2 ⟨fc63,
  List.forall_mem_cons.2 ⟨fc127,
  List.forall_mem_cons.2 ⟨fc255,
  List.forall_mem_cons.2 ⟨fc95,
  List.forall_mem_cons.2 ⟨fc47,
  List.forall_mem_cons.2 ⟨fc207,
  List.forall_mem_cons.2 ⟨fc175,
  List.forall_mem_cons.2 ⟨fc303,
  List.forall_mem_cons.2 ⟨fc367,
  List.forall_mem_cons.2 ⟨fc23,
  List.forall_mem_cons.2 ⟨fc39,
  List.forall_mem_cons.2 ⟨fc135,
  List.forall_mem_cons.2 ⟨fc199,
  List.forall_mem_cons.2 ⟨fc103,
  List.forall_mem_cons.2 ⟨fc167,
  List.forall_mem_cons.2 ⟨fc295,
  List.forall_mem_cons.2 ⟨fc87,
  List.forall_mem_cons.2 ⟨fc343,
  List.forall_mem_cons.2 ⟨fc183,
  List.forall_mem_cons.2 ⟨fc311,
  List.forall_mem_cons.2 ⟨fc247,
  List.forall_mem_cons.2 ⟨fc375,
  List.forall_mem_cons.2 ⟨fc131,
  List.forall_mem_cons.2 ⟨fc259,
  List.forall_mem_cons.2 ⟨fc195,
  List.forall_mem_cons.2 ⟨fc99,
  List.forall_mem_cons.2 ⟨fc163,
  List.forall_mem_cons.2 ⟨fc51,
  List.forall_mem_cons.2 ⟨fc83,
  List.forall_mem_cons.2 ⟨fc339,
  List.forall_mem_cons.2 ⟨fc179,
  List.forall_mem_cons.2 ⟨fc307,
  List.forall_mem_cons.2 ⟨fc243,
  List.forall_mem_cons.2 ⟨fc371,
  List.forall_mem_cons.2 ⟨fc43,
  List.forall_mem_cons.2 ⟨fc139,
  List.forall_mem_cons.2 ⟨fc203,
  List.forall_mem_cons.2 ⟨fc171,
  List.forall_mem_cons.2 ⟨fc299,
  List.forall_mem_cons.2 ⟨fc363,
  List.forall_mem_cons.2 ⟨fc59,
  List.forall_mem_cons.2 ⟨fc91,
  List.forall_mem_cons.2 ⟨fc123,
  List.forall_mem_cons.2 ⟨fc187,
  List.forall_mem_cons.2 ⟨fc251,
  List.forall_mem_cons.2 ⟨fc65,
  List.forall_mem_cons.2 ⟨fc129,
  List.forall_mem_cons.2 ⟨fc257,
  List.forall_mem_cons.2 ⟨fc97,
  List.forall_mem_cons.2 ⟨fc49,
  List.forall_mem_cons.2 ⟨fc177,
  List.forall_mem_cons.2 ⟨fc369,
  List.forall_mem_cons.2 ⟨fc25,
  List.forall_mem_cons.2 ⟨fc41,
  List.forall_mem_cons.2 ⟨fc137,
  List.forall_mem_cons.2 ⟨fc201,
  List.forall_mem_cons.2 ⟨fc105,
  List.forall_mem_cons.2 ⟨fc169,
  List.forall_mem_cons.2 ⟨fc297,
  List.forall_mem_cons.2 ⟨fc361,
  List.forall_mem_cons.2 ⟨fc89,
  List.forall_mem_cons.2 ⟨fc121,
  List.forall_mem_cons.2 ⟨fc185,
  List.forall_mem_cons.2 ⟨fc313,
  List.forall_mem_cons.2 ⟨fc249,
  List.forall_mem_cons.2 ⟨fc377,
  List.forall_mem_cons.2 ⟨fc21,
  List.forall_mem_cons.2 ⟨fc133,
  List.forall_mem_cons.2 ⟨fc261,
  List.forall_mem_cons.2 ⟨fc197,
  List.forall_mem_cons.2 ⟨fc101,
  List.forall_mem_cons.2 ⟨fc165,
  List.forall_mem_cons.2 ⟨fc293,
  List.forall_mem_cons.2 ⟨fc53,
  List.forall_mem_cons.2 ⟨fc85,
  List.forall_mem_cons.2 ⟨fc341,
  List.forall_mem_cons.2 ⟨fc181,
  List.forall_mem_cons.2 ⟨fc309,
  List.forall_mem_cons.2 ⟨fc245,
  List.forall_mem_cons.2 ⟨fc373,
  List.forall_mem_cons.2 ⟨fc45,
  List.forall_mem_cons.2 ⟨fc205,
  List.forall_mem_cons.2 ⟨fc173,
  List.forall_mem_cons.2 ⟨fc301,
  List.forall_mem_cons.2 ⟨fc61,
  List.forall_mem_cons.2 ⟨fc93,
  List.forall_mem_cons.2 ⟨fc125,
  List.forall_mem_cons.2 ⟨fc253,
  List.forall_mem_cons.2 ⟨fc4,
  List.forall_mem_cons.2 ⟨fc32,
  List.forall_mem_cons.2 ⟨fc64,
  List.forall_mem_cons.2 ⟨fc128,
  List.forall_mem_cons.2 ⟨fc256,
  List.forall_mem_cons.2 ⟨fc96,
  List.forall_mem_cons.2 ⟨fc48,
  List.forall_mem_cons.2 ⟨fc176,
  List.forall_mem_cons.2 ⟨fc368,
  List.forall_mem_cons.2 ⟨fc24,
  List.forall_mem_cons.2 ⟨fc40,
  List.forall_mem_cons.2 ⟨fc136,
  List.forall_mem_cons.2 ⟨fc200,
  List.forall_mem_cons.2 ⟨fc104,
  List.forall_mem_cons.2 ⟨fc168,
  List.forall_mem_cons.2 ⟨fc296,
  List.forall_mem_cons.2 ⟨fc56,
  List.forall_mem_cons.2 ⟨fc88,
  List.forall_mem_cons.2 ⟨fc344,
  List.forall_mem_cons.2 ⟨fc184,
  List.forall_mem_cons.2 ⟨fc312,
  List.forall_mem_cons.2 ⟨fc248,
  List.forall_mem_cons.2 ⟨fc376,
  List.forall_mem_cons.2 ⟨fc20,
  List.forall_mem_cons.2 ⟨fc132,
  List.forall_mem_cons.2 ⟨fc260,
  List.forall_mem_cons.2 ⟨fc196,
  List.forall_mem_cons.2 ⟨fc100,
  List.forall_mem_cons.2 ⟨fc164,
  List.forall_mem_cons.2 ⟨fc52,
  List.forall_mem_cons.2 ⟨fc84,
  List.forall_mem_cons.2 ⟨fc340,
  List.forall_mem_cons.2 ⟨fc180,
  List.forall_mem_cons.2 ⟨fc308,
  List.forall_mem_cons.2 ⟨fc244,
  List.forall_mem_cons.2 ⟨fc372,
  List.forall_mem_cons.2 ⟨fc44,
  List.forall_mem_cons.2 ⟨fc204,
  List.forall_mem_cons.2 ⟨fc172,
  List.forall_mem_cons.2 ⟨fc300,
  List.forall_mem_cons.2 ⟨fc92,
  List.forall_mem_cons.2 ⟨fc124,
  List.forall_mem_cons.2 ⟨fc188,
  List.forall_mem_cons.2 ⟨fc6,
  List.forall_mem_cons.2 ⟨fc18,
  List.forall_mem_cons.2 ⟨fc66,
  List.forall_mem_cons.2 ⟨fc130,
  List.forall_mem_cons.2 ⟨fc258,
  List.forall_mem_cons.2 ⟨fc194,
  List.forall_mem_cons.2 ⟨fc98,
  List.forall_mem_cons.2 ⟨fc50,
  List.forall_mem_cons.2 ⟨fc338,
  List.forall_mem_cons.2 ⟨fc178,
  List.forall_mem_cons.2 ⟨fc370,
  List.forall_mem_cons.2 ⟨fc42,
  List.forall_mem_cons.2 ⟨fc138,
  List.forall_mem_cons.2 ⟨fc202,
  List.forall_mem_cons.2 ⟨fc106,
  List.forall_mem_cons.2 ⟨fc170,
  List.forall_mem_cons.2 ⟨fc298,
  List.forall_mem_cons.2 ⟨fc362,
  List.forall_mem_cons.2 ⟨fc90,
  List.forall_mem_cons.2 ⟨fc122,
  List.forall_mem_cons.2 ⟨fc186,
  List.forall_mem_cons.2 ⟨fc250,
  List.forall_mem_cons.2 ⟨fc22,
  List.forall_mem_cons.2 ⟨fc134,
  List.forall_mem_cons.2 ⟨fc198,
  List.forall_mem_cons.2 ⟨fc102,
  List.forall_mem_cons.2 ⟨fc166,
  List.forall_mem_cons.2 ⟨fc294,
  List.forall_mem_cons.2 ⟨fc86,
  List.forall_mem_cons.2 ⟨fc342,
  List.forall_mem_cons.2 ⟨fc182,
  List.forall_mem_cons.2 ⟨fc310,
  List.forall_mem_cons.2 ⟨fc246,
  List.forall_mem_cons.2 ⟨fc374,
  List.forall_mem_cons.2 ⟨fc46,
  List.forall_mem_cons.2 ⟨fc206,
  List.forall_mem_cons.2 ⟨fc174,
  List.forall_mem_cons.2 ⟨fc302,
  List.forall_mem_cons.2 ⟨fc366,
  List.forall_mem_cons.2 ⟨fc62,
  List.forall_mem_cons.2 ⟨fc94,
  List.forall_mem_cons.2 ⟨fc126,
  List.forall_mem_cons.2 ⟨fc254,
  (fun _ h => nomatch h)⟩⟩⟩⟩⟩⟩⟩⟩⟩⟩⟩⟩⟩⟩⟩⟩⟩⟩⟩⟩⟩⟩⟩⟩⟩⟩⟩⟩⟩⟩⟩⟩⟩⟩⟩⟩⟩⟩⟩⟩⟩⟩⟩⟩⟩⟩⟩⟩⟩⟩⟩⟩⟩⟩⟩⟩⟩⟩⟩⟩⟩⟩⟩⟩⟩⟩⟩⟩⟩⟩⟩⟩⟩⟩⟩⟩⟩⟩⟩⟩⟩⟩⟩⟩⟩⟩⟩⟩⟩⟩⟩⟩⟩⟩⟩⟩⟩⟩⟩⟩⟩⟩⟩⟩⟩⟩⟩⟩⟩⟩⟩⟩⟩⟩⟩⟩⟩⟩⟩⟩⟩⟩⟩⟩⟩⟩⟩⟩⟩⟩⟩⟩⟩⟩⟩⟩⟩⟩⟩⟩⟩⟩⟩⟩⟩⟩⟩⟩⟩⟩⟩⟩⟩⟩⟩⟩⟩⟩⟩⟩⟩⟩⟩⟩⟩⟩⟩⟩⟩⟩⟩⟩⟩⟩
theorem fns_ok : ∀ f x, fxT.get f = some x → ∃ fn kd, Tryz.prog.funcs[f]? = some fn ∧ compF tyT.get kd fn = some x := by
  intro f x h
  have := Tr.mem_toL fxT 1 0 f x h
  rw [Nat.one_mul, Nat.add_zero, fxL_eq] at this
  exact fxL_ok _ this
end Go.Proofs.YthlkmffimhnehaaGreat
namespace Go.Proofs.YthlkmffimhnehaaGreat
open Go Go.Ev
noncomputable section
def envY : Env := ⟨fxT, prims⟩
theorem envY_ok (base : Nat) : EnvOk Tryz.prog tyT.get base envY := by
  refine ⟨fns_ok, fun f p h => ?_⟩
  have h : prims f = some p := h
  unfold prims at h
  split at h
  · rename_i hf
    rw [natBeq] at hf
    have hf := of_decide_eq_true hf
    subst hf
    injection h with h; subst h
    exact pByte_ok base
  · split at h
    · rename_i hf
      rw [natBeq] at hf
      have hf := of_decide_eq_true hf
      subst hf
      injection h with h; subst h
      exact pIndex_ok base
    · cases h
theorem callY_ok (lim d base : Nat) : CallOk Tryz.prog base (callN envY lim d) :=
  callN_ok tab (envY_ok base) (fun _ hc hv => regds_ok mixed tab hc hv) lim d
def yes : Option (AV × St) → Bool
  | some (.bool true, _) => true
  | _ => false
/-- A run that answers true is a call that answers true. -/
theorem yes_calls {lim d f : Nat} {args : List AV} (h : yes (callN envY lim d f args ⟨.nil, 0⟩) = true) {w : World} {vs : List Value} (hA : RL w ⟨fun _ => none, fun _ => none, fun _ _ => False⟩ args vs) :
    Calls Tryz.prog f vs.toArray w fun e w' => e = .returned (.bool true) ∧ RowKit.Below w.heap.size w w' := by
  unfold yes at h
  split at h
  · rename_i st hr
    refine (calls_of_run mixed tab envY_ok lim d hr hA).mono fun e w' ⟨v, g', h1, h2, h3⟩ => ?_
    rw [rep_bool h2] at h1
    exact ⟨h1, h3⟩
  · cases h
end
end Go.Proofs.YthlkmffimhnehaaGreat
namespace Go.Proofs.YthlkmffimhnehaaGreat
open Go Go.Ev
set_option maxRecDepth 100000
noncomputable section
def tell (r : Option (AV × St)) (l : AV) : Bool := match r with
  | some (r0, _) => match AV.dead r0 with
    | some x => AV.beq x l
    | none => false
  | none => false
theorem entry_of {call : Cal} {f : Nat} {args : List AV} {l : AV} (h : tell (call f args ⟨.nil, 0⟩) l = true) : Entry call f (args, l) := by
  unfold tell at h
  split at h
  · rename_i r0 st hr
    split at h
    · rename_i x hx
      exact ⟨r0, st, hr, by rw [hx, AV.beq_ok _ _ h]⟩
    · cases h
  · cases h
def isLet (n : Nat) : Bool := Nat.ble 97 n && Nat.ble n 122 || Nat.ble 65 n && Nat.ble n 90
def isDig (n : Nat) : Bool := Nat.ble 48 n && Nat.ble n 57
/-- What a call answers of each byte. -/
def allBytes (f : Nat) (p : Nat → Bool) : Nat → Bool
  | 0 => true
  | n + 1 => tell (callN envY 1000 2 f [.int .u8 (.ofNat n)] ⟨.nil, 0⟩) (.bool (p n)) && allBytes f p n
theorem allBytes_ok {f : Nat} {p : Nat → Bool} : ∀ {n : Nat}, allBytes f p n = true → ∀ k, k < n → Entry (callN envY 1000 2) f ([.int .u8 (.ofNat k)], .bool (p k)) := by
  intro n
  induction n with
  | zero => intro _ k hk; omega
  | succ n ih =>
    intro h k hk
    rw [allBytes, Bool.and_eq_true] at h
    by_cases e : k = n
    · subst e; exact entry_of h.1
    · exact ih h.2 k (by omega)
def pLet : List AV → Option AV
  | [.int .u8 (.ofNat n)] => match Nat.blt n 256 with
    | true => some (.bool (isLet n))
    | false => none
  | _ => none
def pDig : List AV → Option AV
  | [.int .u8 (.ofNat n)] => match Nat.blt n 256 with
    | true => some (.bool (isDig n))
    | false => none
  | _ => none
theorem lets : allBytes 163 isLet 256 = true := by kernel_rfl
theorem digs : allBytes 165 isDig 256 = true := by kernel_rfl
theorem pLet_ok (base : Nat) : PrimOk Tryz.prog base 163 pLet := by
  refine ⟨⟨Tryz.f163, Tryz.func163, by kernel_rfl, by kernel_rfl⟩, fun args r h st w g vs hA hI => ?_⟩
  unfold pLet at h
  split at h <;> try cases h
  rename_i n
  split at h <;> cases h
  rename_i hb
  obtain ⟨r0, st0, h1, h2⟩ := allBytes_ok lets n (by simpa [Nat.blt_eq] using hb)
  refine apart_ok (fun base => callY_ok 1000 2 base) (r := .bool (isLet n)) ?_ hA hI
  unfold apart
  have hd : AV.deadL [.int .u8 (.ofNat n)] = some [.int .u8 (.ofNat n)] := rfl
  rw [hd]
  simp only [h1]
  exact h2
theorem pDig_ok (base : Nat) : PrimOk Tryz.prog base 165 pDig := by
  refine ⟨⟨Tryz.f165, Tryz.func165, by kernel_rfl, by kernel_rfl⟩, fun args r h st w g vs hA hI => ?_⟩
  unfold pDig at h
  split at h <;> try cases h
  rename_i n
  split at h <;> cases h
  rename_i hb
  obtain ⟨r0, st0, h1, h2⟩ := allBytes_ok digs n (by simpa [Nat.blt_eq] using hb)
  refine apart_ok (fun base => callY_ok 1000 2 base) (r := .bool (isDig n)) ?_ hA hI
  unfold apart
  have hd : AV.deadL [.int .u8 (.ofNat n)] = some [.int .u8 (.ofNat n)] := rfl
  rw [hd]
  simp only [h1]
  exact h2
def resT : List (List AV × AV) := [([.str [108, 105, 98, 114, 97, 114, 121]], .bool true), ([.str [103, 101, 111]], .bool false), ([.str [114, 101, 108, 101, 97, 115, 101]], .bool true), ([.str [115, 105, 110, 99, 101]], .bool true), ([.str [112, 117, 98, 108, 105, 99]], .bool true), ([.str [102, 117, 110, 99]], .bool true), ([.str [110, 101, 119]], .bool false), ([.str [73, 110, 116]], .bool true), ([.str [99, 108, 105, 101, 110, 116]], .bool true), ([.str [97, 112, 112]], .bool false), ([.str [105, 109, 112, 111, 114, 116]], .bool true), ([.str [109, 97, 105, 110]], .bool false), ([.str [105, 102]], .bool true), ([.str [97, 118, 97, 105, 108, 97, 98, 108, 101]], .bool true), ([.str [116, 104, 101, 110]], .bool true), ([.str [101, 108, 115, 101]], .bool true), ([.str [108, 101, 116]], .bool true), ([.str [120]], .bool false), ([.str [105, 110]], .bool true), ([.str [102, 114, 111, 122, 101, 110]], .bool true), ([.str [115, 116, 114, 117, 99, 116]], .bool true), ([.str [83]], .bool false), ([.str [97]], .bool false), ([.str [102]], .bool false), ([.str [65, 114, 114, 97, 121]], .bool true), ([.str [97, 114, 114, 97, 121]], .bool true), ([.str [105, 110, 108, 105, 110, 101]], .bool true), ([.str [80]], .bool false), ([.str [117, 110, 105, 111, 110]], .bool true), ([.str [85]], .bool false), ([.str [99, 97]], .bool false)]
theorem res0 : Entry (callN envY 1000 3) 195 ([.str [108, 105, 98, 114, 97, 114, 121]], .bool true) := entry_of (by kernel_rfl)
theorem res1 : Entry (callN envY 1000 3) 195 ([.str [103, 101, 111]], .bool false) := entry_of (by kernel_rfl)
theorem res2 : Entry (callN envY 1000 3) 195 ([.str [114, 101, 108, 101, 97, 115, 101]], .bool true) := entry_of (by kernel_rfl)
theorem res3 : Entry (callN envY 1000 3) 195 ([.str [115, 105, 110, 99, 101]], .bool true) := entry_of (by kernel_rfl)
theorem res4 : Entry (callN envY 1000 3) 195 ([.str [112, 117, 98, 108, 105, 99]], .bool true) := entry_of (by kernel_rfl)
theorem res5 : Entry (callN envY 1000 3) 195 ([.str [102, 117, 110, 99]], .bool true) := entry_of (by kernel_rfl)
theorem res6 : Entry (callN envY 1000 3) 195 ([.str [110, 101, 119]], .bool false) := entry_of (by kernel_rfl)
theorem res7 : Entry (callN envY 1000 3) 195 ([.str [73, 110, 116]], .bool true) := entry_of (by kernel_rfl)
theorem res8 : Entry (callN envY 1000 3) 195 ([.str [99, 108, 105, 101, 110, 116]], .bool true) := entry_of (by kernel_rfl)
theorem res9 : Entry (callN envY 1000 3) 195 ([.str [97, 112, 112]], .bool false) := entry_of (by kernel_rfl)
theorem res10 : Entry (callN envY 1000 3) 195 ([.str [105, 109, 112, 111, 114, 116]], .bool true) := entry_of (by kernel_rfl)
theorem res11 : Entry (callN envY 1000 3) 195 ([.str [109, 97, 105, 110]], .bool false) := entry_of (by kernel_rfl)
theorem res12 : Entry (callN envY 1000 3) 195 ([.str [105, 102]], .bool true) := entry_of (by kernel_rfl)
theorem res13 : Entry (callN envY 1000 3) 195 ([.str [97, 118, 97, 105, 108, 97, 98, 108, 101]], .bool true) := entry_of (by kernel_rfl)
theorem res14 : Entry (callN envY 1000 3) 195 ([.str [116, 104, 101, 110]], .bool true) := entry_of (by kernel_rfl)
theorem res15 : Entry (callN envY 1000 3) 195 ([.str [101, 108, 115, 101]], .bool true) := entry_of (by kernel_rfl)
theorem res16 : Entry (callN envY 1000 3) 195 ([.str [108, 101, 116]], .bool true) := entry_of (by kernel_rfl)
theorem res17 : Entry (callN envY 1000 3) 195 ([.str [120]], .bool false) := entry_of (by kernel_rfl)
theorem res18 : Entry (callN envY 1000 3) 195 ([.str [105, 110]], .bool true) := entry_of (by kernel_rfl)
theorem res19 : Entry (callN envY 1000 3) 195 ([.str [102, 114, 111, 122, 101, 110]], .bool true) := entry_of (by kernel_rfl)
theorem res20 : Entry (callN envY 1000 3) 195 ([.str [115, 116, 114, 117, 99, 116]], .bool true) := entry_of (by kernel_rfl)
theorem res21 : Entry (callN envY 1000 3) 195 ([.str [83]], .bool false) := entry_of (by kernel_rfl)
theorem res22 : Entry (callN envY 1000 3) 195 ([.str [97]], .bool false) := entry_of (by kernel_rfl)
theorem res23 : Entry (callN envY 1000 3) 195 ([.str [102]], .bool false) := entry_of (by kernel_rfl)
theorem res24 : Entry (callN envY 1000 3) 195 ([.str [65, 114, 114, 97, 121]], .bool true) := entry_of (by kernel_rfl)
theorem res25 : Entry (callN envY 1000 3) 195 ([.str [97, 114, 114, 97, 121]], .bool true) := entry_of (by kernel_rfl)
theorem res26 : Entry (callN envY 1000 3) 195 ([.str [105, 110, 108, 105, 110, 101]], .bool true) := entry_of (by kernel_rfl)
theorem res27 : Entry (callN envY 1000 3) 195 ([.str [80]], .bool false) := entry_of (by kernel_rfl)
theorem res28 : Entry (callN envY 1000 3) 195 ([.str [117, 110, 105, 111, 110]], .bool true) := entry_of (by kernel_rfl)
theorem res29 : Entry (callN envY 1000 3) 195 ([.str [85]], .bool false) := entry_of (by kernel_rfl)
theorem res30 : Entry (callN envY 1000 3) 195 ([.str [99, 97]], .bool false) := entry_of (by kernel_rfl)
theorem resT_ok : ∀ p ∈ resT, Entry (callN envY 1000 3) 195 p :=
  List.forall_mem_cons.2 ⟨res0,
  List.forall_mem_cons.2 ⟨res1,
  List.forall_mem_cons.2 ⟨res2,
  List.forall_mem_cons.2 ⟨res3,
  List.forall_mem_cons.2 ⟨res4,
  List.forall_mem_cons.2 ⟨res5,
  List.forall_mem_cons.2 ⟨res6,
  List.forall_mem_cons.2 ⟨res7,
  List.forall_mem_cons.2 ⟨res8,
  List.forall_mem_cons.2 ⟨res9,
  List.forall_mem_cons.2 ⟨res10,
  List.forall_mem_cons.2 ⟨res11,
  List.forall_mem_cons.2 ⟨res12,
  List.forall_mem_cons.2 ⟨res13,
  List.forall_mem_cons.2 ⟨res14,
  List.forall_mem_cons.2 ⟨res15,
  List.forall_mem_cons.2 ⟨res16,
  List.forall_mem_cons.2 ⟨res17,
  List.forall_mem_cons.2 ⟨res18,
  List.forall_mem_cons.2 ⟨res19,
  List.forall_mem_cons.2 ⟨res20,
  List.forall_mem_cons.2 ⟨res21,
  List.forall_mem_cons.2 ⟨res22,
  List.forall_mem_cons.2 ⟨res23,
  List.forall_mem_cons.2 ⟨res24,
  List.forall_mem_cons.2 ⟨res25,
  List.forall_mem_cons.2 ⟨res26,
  List.forall_mem_cons.2 ⟨res27,
  List.forall_mem_cons.2 ⟨res28,
  List.forall_mem_cons.2 ⟨res29,
  List.forall_mem_cons.2 ⟨res30,
  (fun _ h => nomatch h)⟩⟩⟩⟩⟩⟩⟩⟩⟩⟩⟩⟩⟩⟩⟩⟩⟩⟩⟩⟩⟩⟩⟩⟩⟩⟩⟩⟩⟩⟩⟩
def prW (f : Nat) : Option (List AV → Option AV) := match Nat.beq f 163 with
  | true => some pLet
  | false => match Nat.beq f 165 with
    | true => some pDig
    | false => match Nat.beq f 195 with
      | true => some (memo resT)
      | false => prims f
def envW : Env := ⟨fxT, prW⟩
theorem envW_ok (base : Nat) : EnvOk Tryz.prog tyT.get base envW := by
  refine ⟨fns_ok, fun f p h => ?_⟩
  have h : prW f = some p := h
  unfold prW at h
  split at h
  · rename_i hf
    rw [natBeq] at hf
    have hf := of_decide_eq_true hf
    subst hf
    injection h with h; subst h
    exact pLet_ok base
  · split at h
    · rename_i hf
      rw [natBeq] at hf
      have hf := of_decide_eq_true hf
      subst hf
      injection h with h; subst h
      exact pDig_ok base
    · split at h
      · rename_i hf
        rw [natBeq] at hf
        have hf := of_decide_eq_true hf
        subst hf
        injection h with h; subst h
        exact memo_ok (fun base => callY_ok 1000 3 base) resT_ok ⟨Tryz.f195, Tryz.func195, by kernel_rfl, by kernel_rfl⟩ base
      · exact (envY_ok base).prim f p h
theorem callW_ok (lim d base : Nat) : CallOk Tryz.prog base (callN envW lim d) :=
  callN_ok tab (envW_ok base) (fun _ hc hv => regds_ok mixed tab hc hv) lim d
end
end Go.Proofs.YthlkmffimhnehaaGreat
namespace Go.Proofs.YthlkmffimhnehaaGreat
open Go Go.Ev
set_option maxRecDepth 100000
set_option linter.unusedSimpArgs false
set_option linter.unusedVariables false
noncomputable section
section
variable {call : Cal} {lim : Nat} {tm : Tr AV} {st : St}
theorem rx_nil : runX call [] tm st = some (tm, st) := rfl
theorem rx_free (d : Option Nat) (op : XOp) (l : List XR) : runX call (⟨d, none, op⟩ :: l) tm st = nextX (runX call l) tm d (doX call st tm op) := rfl
theorem rx_held (d : Option Nat) (g : Nat) (c : Bool) (op : XOp) (l : List XR) : runX call (⟨d, some (g, c), op⟩ :: l) tm st = stepX call (runX call l) ⟨d, some (g, c), op⟩ tm st (wantV c (tm.get g)) := rfl
theorem sx_yes (ih : Step) (o : XR) : stepX call ih o tm st (some true) = nextX ih tm o.dst (doX call st tm o.op) := rfl
theorem sx_no (ih : Step) (o : XR) : stepX call ih o tm st (some false) = ih (setD tm o.dst und) st := rfl
theorem wv_bool (c b : Bool) : wantV c (some (.bool b)) = some (b == c) := rfl
theorem wv_und (c : Bool) : wantV c (some und) = some false := rfl
theorem nx_some (ih : Step) (d : Option Nat) (v : AV) (st' : St) : nextX ih tm d (some (v, st')) = ih (setD tm d v) st' := rfl
theorem sd_some (d : Nat) (v : AV) : setD tm (some d) v = tm.set d v := rfl
theorem dx_p (o : XP) : doX call st tm (.p o) = okP st (doP tm o) := rfl
theorem ok_some (v : AV) : okP st (some v) = some (v, st) := rfl
theorem dp_move (x : XO) : doP tm (.move x) = some (evX tm x) := rfl
theorem dp_lens (x : XO) : doP tm (.lens x) = xLens (evX tm x) := rfl
theorem dp_bin (op : BinOp) (k : EK) (x y : XO) : doP tm (.bin op k x y) = binA op k (evX tm x) (evX tm y) := rfl
theorem dp_ixs (x y : XO) : doP tm (.ixs x y) = xIxs (evX tm x) (natOf (evX tm y)) := rfl
theorem dp_pick (c a b : XO) : doP tm (.pick c a b) = xPick (evX tm c) (evX tm a) (evX tm b) := rfl
theorem dx_call (f : Nat) (args : List XO) : doX call st tm (.e (.call (.c (.fn f [] [])) args)) = call f (evXs tm args ++ []) st := rfl
theorem evXs_nil : evXs tm [] = [] := rfl
theorem evXs_cons (x : XO) (l : List XO) : evXs tm (x :: l) = evX tm x :: evXs tm l := rfl
theorem ex_reg (ops : List XR) : execX call lim (.reg ops) tm st = R.of (runX call ops tm st) := rfl
theorem ex_seq (a b : XC) : execX call lim (.seq a b) tm st = (execX call lim a tm st).andThen (execX call lim b) := rfl
theorem ex_cond (c : XO) (a b : XC) : execX call lim (.cond c a b) tm st = condV (evX tm c) (execX call lim a tm st) (execX call lim b tm st) := rfl
theorem ex_block (id : Nat) (b : XC) : execX call lim (.block id b) tm st = (execX call lim b tm st).block id := rfl
theorem ex_skip : execX call lim .skip tm st = .ok .norm tm st := rfl
theorem ex_exit (id : Nat) : execX call lim (.exit id) tm st = .ok (.exit id) tm st := rfl
theorem ro_some (p : Tr AV × St) : R.of (some p) = .ok .norm p.1 p.2 := rfl
theorem at_norm (f : RF) : R.andThen (.ok .norm tm st) f = f tm st := rfl
theorem at_exit (f : RF) (id : Nat) : R.andThen (.ok (.exit id) tm st) f = .ok (.exit id) tm st := rfl
theorem bb1 : (true == true) = true := rfl
theorem bb2 : (true == false) = false := rfl
theorem bb3 : (false == true) = false := rfl
theorem bb4 : (false == false) = true := rfl
theorem blk_norm (id : Nat) : R.block id (.ok .norm tm st) = .ok .norm tm st := rfl
end
def runsTo (r : R) (P : Ex → Tr AV → St → Prop) : Prop := match r with
  | .ok e tm st => P e tm st
  | .fail => False
theorem runs_then {r : R} {f : RF} {P Q : Ex → Tr AV → St → Prop} (h : runsTo r P) (k : ∀ e tm st, P e tm st → runsTo (R.andThen (.ok e tm st) f) Q) : runsTo (r.andThen f) Q := by
  cases r with
  | fail => exact h
  | ok e tm st => exact k e tm st h
theorem loop_succ (f : RF) (n : Nat) (tm : Tr AV) (st : St) : loopN f (n + 1) tm st = (f tm st).andThen (loopN f n) := rfl
theorem wrap_small {n : Int} (h0 : 0 ≤ n) (h1 : n < 9223372036854775808) : IntKind.i64.wrap n = n := by
  unfold IntKind.wrap
  have e : n % 2 ^ IntKind.i64.bits = n := Int.emod_eq_of_lt h0 (by show _ < (18446744073709551616 : Int); omega)
  simp only [e]
  rw [if_neg]
  simp only [Bool.and_eq_true, decide_eq_true_eq, not_and]
  intro _
  show ¬ ((9223372036854775808 : Int) ≤ _)
  omega
theorem lss_nat (a b : Nat) : binA .lss .int (.int .i64 (.ofNat a)) (.int .i64 (.ofNat b)) = some (.bool (decide (a < b))) := by
  show some (AV.bool (decide ((a : Int) < (b : Int)))) = _
  rw [show decide ((a : Int) < (b : Int)) = decide (a < b) from by simp]
theorem add_one {n : Nat} (h : n < 1000000000) : binA .add .int (.int .i64 (.ofNat n)) (.int .i64 1) = some (.int .i64 (.ofNat (n + 1))) := by
  show some (AV.int .i64 (IntKind.i64.wrap ((n : Int) + 1))) = _
  rw [wrap_small (by omega) (by omega)]; rfl
theorem len_str (s : List UInt8) : xLens (.str s) = some (.int .i64 (.ofNat s.length)) := rfl
theorem nat_of (n : Nat) : natOf (.int .i64 (.ofNat n)) = some n := rfl
theorem ix_str {s : List UInt8} {n : Nat} {b : UInt8} (h : nth s n = some b) : xIxs (.str s) (some n) = some (.int .u8 (.ofNat b.toNat)) := by unfold xIxs; simp only [h]
/-- What the letters and digits are asked. -/
structure CallLD (call : Cal) : Prop where
  l : ∀ (b : UInt8) st, call 163 [.int .u8 (.ofNat b.toNat)] st = some (.bool (isLet b.toNat), st)
  d : ∀ (b : UInt8) st, call 165 [.int .u8 (.ofNat b.toNat)] st = some (.bool (isDig b.toNat), st)
theorem callLD (lim d : Nat) : CallLD (callN envW lim (d + 1)) := by
  refine ⟨fun b st => ?_, fun b st => ?_⟩
  · show (match pLet [.int .u8 (.ofNat b.toNat)] with | some r => some (r, st) | none => _) = _
    have : Nat.blt b.toNat 256 = true := by rw [Nat.blt_eq]; exact b.toNat_lt
    simp only [pLet, this]
  · show (match pDig [.int .u8 (.ofNat b.toNat)] with | some r => some (r, st) | none => _) = _
    have : Nat.blt b.toNat 256 = true := by rw [Nat.blt_eq]; exact b.toNat_lt
    simp only [pDig, this]
theorem drop_nth {s : List UInt8} {n : Nat} {b : UInt8} {l : List UInt8} (h : s.drop n = b :: l) : nth s n = some b ∧ n < s.length ∧ s.drop (n + 1) = l := by
  have h1 : n < s.length := by
    by_cases e : n < s.length
    · exact e
    · rw [List.drop_eq_nil_of_le (by omega)] at h; cases h
  rw [List.drop_eq_getElem_cons h1] at h
  injection h with ha hb
  refine ⟨?_, h1, hb⟩
  rw [nth_eq, List.getElem?_eq_getElem h1, ha]
theorem drop_nil {s : List UInt8} {n : Nat} (h : s.drop n = []) (hn : n ≤ s.length) : n = s.length := by
  have := congrArg List.length h
  simp at this
  omega
theorem blk_exit (id : Nat) (tm : Tr AV) (st : St) : R.block id (.ok (.exit id) tm st) = .ok .norm tm st := by
  unfold R.block
  simp only [natBeq, decide_true]
theorem blk_ret (id : Nat) (tm : Tr AV) (st : St) : R.block id (.ok .ret tm st) = .ok .ret tm st := rfl
theorem at_ret (f : RF) (tm : Tr AV) (st : St) : R.andThen (.ok .ret tm st) f = .ok .ret tm st := rfl
theorem ex_loop {call : Cal} {lim : Nat} {tm : Tr AV} {st : St} (b : XC) : execX call lim (.loop b) tm st = loopN (execX call lim b) lim tm st := rfl
theorem ex_ret {call : Cal} {lim : Nat} {tm : Tr AV} {st : St} : execX call lim .ret tm st = .ok .ret tm st := rfl
theorem end_t (k : Nat) (tm : Tr AV) (st : St) : endF [.t k] (.ok .ret tm st) = some (evX tm (.t k), st) := rfl
theorem runs_elim {r : R} {P : Ex → Tr AV → St → Prop} (h : runsTo r P) : ∃ e tm st, r = .ok e tm st ∧ P e tm st := by
  cases r with
  | fail => exact h.elim
  | ok e tm st => exact ⟨e, tm, st, rfl, h⟩
theorem args2_0 (a b : AV) : (argsT [a, b] 0 .nil).get 0 = some a := rfl
theorem args2_1 (a b : AV) : (argsT [a, b] 0 .nil).get 1 = some b := rfl
def wordB : XC := (.seq (.seq (.reg 
  [⟨some 5, none, (.p (.move (.t 1)))⟩,
   ⟨some 6, none, (.p (.move (.t 0)))⟩,
   ⟨some 7, none, (.p (.lens (.t 6)))⟩,
   ⟨some 8, none, (.p (.bin .lss .int (.t 5) (.t 7)))⟩,
   ⟨some 9, none, (.p (.move (.t 8)))⟩,
   ⟨some 10, some (9, true), (.p (.move (.t 0)))⟩,
   ⟨some 11, some (9, true), (.p (.move (.t 1)))⟩,
   ⟨some 12, some (9, true), (.p (.ixs (.t 10) (.t 11)))⟩,
   ⟨some 13, some (9, true), (.e (.call (.c (.fn 163 [] [])) [(.t 12)]))⟩,
   ⟨some 14, some (9, true), (.p (.move (.t 13)))⟩,
   ⟨some 15, some (14, false), (.p (.move (.t 0)))⟩,
   ⟨some 16, some (14, false), (.p (.move (.t 1)))⟩,
   ⟨some 17, some (14, false), (.p (.ixs (.t 15) (.t 16)))⟩,
   ⟨some 18, some (14, false), (.e (.call (.c (.fn 165 [] [])) [(.t 17)]))⟩,
   ⟨some 19, some (9, true), (.p (.pick (.t 14) (.c (.bool true)) (.t 18)))⟩,
   ⟨some 20, none, (.p (.pick (.t 9) (.t 19) (.c (.bool false))))⟩]) (.cond (.t 20) .skip (.exit 0))) (.block 1 (.reg 
  [⟨some 21, none, (.p (.move (.t 1)))⟩,
   ⟨some 22, none, (.p (.bin .add .int (.t 21) (.c (.int .i64 1))))⟩,
   ⟨some 1, none, (.p (.move (.t 22)))⟩])))
def wordLen : List UInt8 → Nat
  | [] => 0
  | b :: l => match isLet b.toNat || isDig b.toNat with
    | true => wordLen l + 1
    | false => 0
theorem word_loop {call : Cal} (hc : CallLD call) {lim : Nat} {st : St} {s : List UInt8} (hs : s.length < 1000000) : ∀ (l : List UInt8) (n m : Nat) (tm : Tr AV), s.drop n = l → n ≤ s.length → l.length < m → tm.get 0 = some (.str s) → tm.get 1 = some (.int .i64 (.ofNat n)) →
    runsTo (loopN (execX call lim wordB) m tm st) fun e tm' st' => e = .exit 0 ∧ st' = st ∧ tm'.get 0 = some (.str s) ∧ tm'.get 1 = some (.int .i64 (.ofNat (n + wordLen l))) := by
  intro l
  induction l with
  | nil =>
    intro n m tm hl hn hm h0 h1
    obtain ⟨m, rfl⟩ : ∃ k, m = k + 1 := ⟨m - 1, by simp at hm; omega⟩
    have hlt : decide (n < s.length) = false := decide_eq_false (by have := drop_nil hl hn; omega)
    simp only [loop_succ, wordB, ex_seq, ex_reg, rx_nil, rx_free, rx_held, sx_yes, sx_no, wv_bool, wv_und, nx_some, sd_some, dx_p, ok_some, dp_move, dp_lens, dp_bin, dp_ixs, dp_pick, dx_call, evXs_nil, evXs_cons, evX_t, evX_c, Tr.get_set, List.append_nil, Option.getD_some, ex_cond, ex_block, ex_skip, ex_exit, ro_some, at_norm, at_exit, blk_norm, xPick, condV, runsTo, Nat.reduceEqDiff, reduceCtorEq, if_true, if_false, bb1, bb2, bb3, bb4, Bool.or_false, Bool.or_true, Bool.false_or, Bool.true_or, h0, h1, lss_nat, len_str, nat_of, hlt, wordLen, Nat.add_zero]
    exact ⟨trivial, trivial, trivial, trivial⟩
  | cons b l ih =>
    intro n m tm hl hn hm h0 h1
    obtain ⟨m, rfl⟩ : ∃ k, m = k + 1 := ⟨m - 1, by simp at hm; omega⟩
    obtain ⟨hb, hlt0, hl'⟩ := drop_nth hl
    have hlt : decide (n < s.length) = true := decide_eq_true hlt0
    have hadd := add_one (n := n) (by omega)
    have hix := ix_str hb
    have hL := hc.l b st
    have hD := hc.d b st
    cases hl : isLet b.toNat <;> cases hd : isDig b.toNat <;> rw [hl] at hL <;> rw [hd] at hD
    all_goals
      simp only [loop_succ, wordB, ex_seq, ex_reg, rx_nil, rx_free, rx_held, sx_yes, sx_no, wv_bool, wv_und, nx_some, sd_some, dx_p, ok_some, dp_move, dp_lens, dp_bin, dp_ixs, dp_pick, dx_call, evXs_nil, evXs_cons, evX_t, evX_c, Tr.get_set, List.append_nil, Option.getD_some, ex_cond, ex_block, ex_skip, ex_exit, ro_some, at_norm, at_exit, blk_norm, xPick, condV, runsTo, Nat.reduceEqDiff, reduceCtorEq, if_true, if_false, bb1, bb2, bb3, bb4, Bool.or_false, Bool.or_true, Bool.false_or, Bool.true_or, h0, h1, lss_nat, len_str, nat_of, hlt, hadd, hix, hL, hD, wordLen, hl, hd, Nat.add_zero]
    all_goals first
      | exact ⟨trivial, trivial, trivial, trivial⟩
      | (refine (show n + (wordLen l + 1) = n + 1 + wordLen l by omega) ▸ ih (n + 1) m _ hl' (by omega) (by simp at hm; omega) ?_ ?_ <;> simp only [Tr.get_set, h0, h1, Nat.reduceEqDiff, reduceCtorEq, if_true, if_false])
def numeB : XC := (.seq (.seq (.reg 
  [⟨some 5, none, (.p (.move (.t 1)))⟩,
   ⟨some 6, none, (.p (.move (.t 0)))⟩,
   ⟨some 7, none, (.p (.lens (.t 6)))⟩,
   ⟨some 8, none, (.p (.bin .lss .int (.t 5) (.t 7)))⟩,
   ⟨some 9, none, (.p (.move (.t 8)))⟩,
   ⟨some 10, some (9, true), (.p (.move (.t 0)))⟩,
   ⟨some 11, some (9, true), (.p (.move (.t 1)))⟩,
   ⟨some 12, some (9, true), (.p (.ixs (.t 10) (.t 11)))⟩,
   ⟨some 13, some (9, true), (.e (.call (.c (.fn 165 [] [])) [(.t 12)]))⟩,
   ⟨some 14, none, (.p (.pick (.t 9) (.t 13) (.c (.bool false))))⟩]) (.cond (.t 14) .skip (.exit 0))) (.block 1 (.reg 
  [⟨some 15, none, (.p (.move (.t 1)))⟩,
   ⟨some 16, none, (.p (.bin .add .int (.t 15) (.c (.int .i64 1))))⟩,
   ⟨some 1, none, (.p (.move (.t 16)))⟩])))
def numeLen : List UInt8 → Nat
  | [] => 0
  | b :: l => match isDig b.toNat with
    | true => numeLen l + 1
    | false => 0
theorem nume_loop {call : Cal} (hc : CallLD call) {lim : Nat} {st : St} {s : List UInt8} (hs : s.length < 1000000) : ∀ (l : List UInt8) (n m : Nat) (tm : Tr AV), s.drop n = l → n ≤ s.length → l.length < m → tm.get 0 = some (.str s) → tm.get 1 = some (.int .i64 (.ofNat n)) →
    runsTo (loopN (execX call lim numeB) m tm st) fun e tm' st' => e = .exit 0 ∧ st' = st ∧ tm'.get 0 = some (.str s) ∧ tm'.get 1 = some (.int .i64 (.ofNat (n + numeLen l))) := by
  intro l
  induction l with
  | nil =>
    intro n m tm hl hn hm h0 h1
    obtain ⟨m, rfl⟩ : ∃ k, m = k + 1 := ⟨m - 1, by simp at hm; omega⟩
    have hlt : decide (n < s.length) = false := decide_eq_false (by have := drop_nil hl hn; omega)
    simp only [loop_succ, numeB, ex_seq, ex_reg, rx_nil, rx_free, rx_held, sx_yes, sx_no, wv_bool, wv_und, nx_some, sd_some, dx_p, ok_some, dp_move, dp_lens, dp_bin, dp_ixs, dp_pick, dx_call, evXs_nil, evXs_cons, evX_t, evX_c, Tr.get_set, List.append_nil, Option.getD_some, ex_cond, ex_block, ex_skip, ex_exit, ro_some, at_norm, at_exit, blk_norm, xPick, condV, runsTo, Nat.reduceEqDiff, reduceCtorEq, if_true, if_false, bb1, bb2, bb3, bb4, Bool.or_false, Bool.or_true, Bool.false_or, Bool.true_or, h0, h1, lss_nat, len_str, nat_of, hlt, numeLen, Nat.add_zero]
    exact ⟨trivial, trivial, trivial, trivial⟩
  | cons b l ih =>
    intro n m tm hl hn hm h0 h1
    obtain ⟨m, rfl⟩ : ∃ k, m = k + 1 := ⟨m - 1, by simp at hm; omega⟩
    obtain ⟨hb, hlt0, hl'⟩ := drop_nth hl
    have hlt : decide (n < s.length) = true := decide_eq_true hlt0
    have hadd := add_one (n := n) (by omega)
    have hix := ix_str hb
    have hD := hc.d b st
    cases hd : isDig b.toNat <;> rw [hd] at hD
    all_goals
      simp only [loop_succ, numeB, ex_seq, ex_reg, rx_nil, rx_free, rx_held, sx_yes, sx_no, wv_bool, wv_und, nx_some, sd_some, dx_p, ok_some, dp_move, dp_lens, dp_bin, dp_ixs, dp_pick, dx_call, evXs_nil, evXs_cons, evX_t, evX_c, Tr.get_set, List.append_nil, Option.getD_some, ex_cond, ex_block, ex_skip, ex_exit, ro_some, at_norm, at_exit, blk_norm, xPick, condV, runsTo, Nat.reduceEqDiff, reduceCtorEq, if_true, if_false, bb1, bb2, bb3, bb4, Bool.or_false, Bool.or_true, Bool.false_or, Bool.true_or, h0, h1, lss_nat, len_str, nat_of, hlt, hadd, hix, hD, numeLen, hd, Nat.add_zero]
    all_goals first
      | exact ⟨trivial, trivial, trivial, trivial⟩
      | (refine (show n + (numeLen l + 1) = n + 1 + numeLen l by omega) ▸ ih (n + 1) m _ hl' (by omega) (by simp at hm; omega) ?_ ?_ <;> simp only [Tr.get_set, h0, h1, Nat.reduceEqDiff, reduceCtorEq, if_true, if_false])
theorem word_body : x164.body = .seq (.reg 
  [⟨some 4, none, (.p (.move (.c (.int .i64 0))))⟩]) (.seq (.block 0 (.loop wordB)) (.seq (.reg 
  [⟨some 23, none, (.p (.move (.t 1)))⟩,
   ⟨some 4, none, (.p (.move (.t 23)))⟩]) .ret)) := by kernel_rfl
theorem word_call {call : Cal} (hc : CallLD call) {lim : Nat} (st : St) {s : List UInt8} (hs : s.length < 1000000) (hl : s.length < lim) {n : Nat} (hn : n ≤ s.length) :
    endF [.t 4] (execX call lim x164.body (argsT [.str s, .int .i64 (.ofNat n)] 0 .nil) st) = some (.int .i64 (.ofNat (n + wordLen (s.drop n))), st) := by
  rw [word_body]
  simp only [ex_seq, ex_reg, rx_nil, rx_free, rx_held, sx_yes, sx_no, wv_bool, wv_und, nx_some, sd_some, dx_p, ok_some, dp_move, dp_lens, dp_bin, dp_ixs, dp_pick, dx_call, evXs_nil, evXs_cons, evX_t, evX_c, Tr.get_set, List.append_nil, Option.getD_some, ex_cond, ex_block, ex_skip, ex_exit, ro_some, at_norm, at_exit, blk_norm, xPick, condV, runsTo, Nat.reduceEqDiff, reduceCtorEq, if_true, if_false, bb1, bb2, bb3, bb4, Bool.or_false, Bool.or_true, Bool.false_or, Bool.true_or, ex_loop]
  obtain ⟨e, tm', st', h1, rfl, rfl, h2, h3⟩ := runs_elim (word_loop hc hs (s.drop n) n lim ((argsT [.str s, .int .i64 (.ofNat n)] 0 .nil).set 4 (.int .i64 0)) rfl hn (by rw [List.length_drop]; omega) (by simp only [Tr.get_set, args2_0, Nat.reduceEqDiff, reduceCtorEq, if_false]) (by simp only [Tr.get_set, args2_1, Nat.reduceEqDiff, reduceCtorEq, if_false]))
  rw [h1]
  simp only [blk_exit, ex_seq, ex_reg, rx_nil, rx_free, rx_held, sx_yes, sx_no, wv_bool, wv_und, nx_some, sd_some, dx_p, ok_some, dp_move, dp_lens, dp_bin, dp_ixs, dp_pick, dx_call, evXs_nil, evXs_cons, evX_t, evX_c, Tr.get_set, List.append_nil, Option.getD_some, ex_cond, ex_block, ex_skip, ex_exit, ro_some, at_norm, at_exit, blk_norm, xPick, condV, runsTo, Nat.reduceEqDiff, reduceCtorEq, if_true, if_false, bb1, bb2, bb3, bb4, Bool.or_false, Bool.or_true, Bool.false_or, Bool.true_or, ex_ret, end_t, h2, h3]
theorem nume_body : x166.body = .seq (.reg 
  [⟨some 4, none, (.p (.move (.c (.int .i64 0))))⟩]) (.seq (.block 0 (.loop numeB)) (.seq (.reg 
  [⟨some 17, none, (.p (.move (.t 1)))⟩,
   ⟨some 4, none, (.p (.move (.t 17)))⟩]) .ret)) := by kernel_rfl
theorem nume_call {call : Cal} (hc : CallLD call) {lim : Nat} (st : St) {s : List UInt8} (hs : s.length < 1000000) (hl : s.length < lim) {n : Nat} (hn : n ≤ s.length) :
    endF [.t 4] (execX call lim x166.body (argsT [.str s, .int .i64 (.ofNat n)] 0 .nil) st) = some (.int .i64 (.ofNat (n + numeLen (s.drop n))), st) := by
  rw [nume_body]
  simp only [ex_seq, ex_reg, rx_nil, rx_free, rx_held, sx_yes, sx_no, wv_bool, wv_und, nx_some, sd_some, dx_p, ok_some, dp_move, dp_lens, dp_bin, dp_ixs, dp_pick, dx_call, evXs_nil, evXs_cons, evX_t, evX_c, Tr.get_set, List.append_nil, Option.getD_some, ex_cond, ex_block, ex_skip, ex_exit, ro_some, at_norm, at_exit, blk_norm, xPick, condV, runsTo, Nat.reduceEqDiff, reduceCtorEq, if_true, if_false, bb1, bb2, bb3, bb4, Bool.or_false, Bool.or_true, Bool.false_or, Bool.true_or, ex_loop]
  obtain ⟨e, tm', st', h1, rfl, rfl, h2, h3⟩ := runs_elim (nume_loop hc hs (s.drop n) n lim ((argsT [.str s, .int .i64 (.ofNat n)] 0 .nil).set 4 (.int .i64 0)) rfl hn (by rw [List.length_drop]; omega) (by simp only [Tr.get_set, args2_0, Nat.reduceEqDiff, reduceCtorEq, if_false]) (by simp only [Tr.get_set, args2_1, Nat.reduceEqDiff, reduceCtorEq, if_false]))
  rw [h1]
  simp only [blk_exit, ex_seq, ex_reg, rx_nil, rx_free, rx_held, sx_yes, sx_no, wv_bool, wv_und, nx_some, sd_some, dx_p, ok_some, dp_move, dp_lens, dp_bin, dp_ixs, dp_pick, dx_call, evXs_nil, evXs_cons, evX_t, evX_c, Tr.get_set, List.append_nil, Option.getD_some, ex_cond, ex_block, ex_skip, ex_exit, ro_some, at_norm, at_exit, blk_norm, xPick, condV, runsTo, Nat.reduceEqDiff, reduceCtorEq, if_true, if_false, bb1, bb2, bb3, bb4, Bool.or_false, Bool.or_true, Bool.false_or, Bool.true_or, ex_ret, end_t, h2, h3]
theorem eql_u8 (a c : Nat) : binA .eql .int (.int .u8 (.ofNat a)) (.int .u8 (.ofNat c)) = some (.bool (Nat.beq a c)) := rfl
def isSp (n : Nat) : Bool := Nat.beq n 32 || Nat.beq n 9 || Nat.beq n 10 || Nat.beq n 13
def blankLen : List UInt8 → Nat
  | [] => 0
  | b :: l => match isSp b.toNat with
    | true => blankLen l + 1
    | false => 0
theorem e32 (a : Nat) : binA .eql .int (.int .u8 (.ofNat a)) (.int .u8 32) = some (.bool (Nat.beq a 32)) := rfl
theorem e9 (a : Nat) : binA .eql .int (.int .u8 (.ofNat a)) (.int .u8 9) = some (.bool (Nat.beq a 9)) := rfl
theorem e10 (a : Nat) : binA .eql .int (.int .u8 (.ofNat a)) (.int .u8 10) = some (.bool (Nat.beq a 10)) := rfl
theorem e13 (a : Nat) : binA .eql .int (.int .u8 (.ofNat a)) (.int .u8 13) = some (.bool (Nat.beq a 13)) := rfl
theorem e35 (a : Nat) : binA .eql .int (.int .u8 (.ofNat a)) (.int .u8 35) = some (.bool (Nat.beq a 35)) := rfl
def blankB : XC := (.seq (.seq (.reg 
  [⟨some 5, none, (.p (.move (.t 1)))⟩,
   ⟨some 6, none, (.p (.move (.t 0)))⟩,
   ⟨some 7, none, (.p (.lens (.t 6)))⟩,
   ⟨some 8, none, (.p (.bin .lss .int (.t 5) (.t 7)))⟩]) (.cond (.t 8) .skip (.exit 0))) (.block 1 (.block 2 (.seq (.reg 
  [⟨some 11, none, (.p (.move (.t 0)))⟩,
   ⟨some 12, none, (.p (.move (.t 1)))⟩,
   ⟨some 13, none, (.p (.ixs (.t 11) (.t 12)))⟩,
   ⟨some 14, none, (.p (.bin .eql .int (.t 13) (.c (.int .u8 32))))⟩,
   ⟨some 15, none, (.p (.move (.t 14)))⟩,
   ⟨some 16, some (15, false), (.p (.move (.t 0)))⟩,
   ⟨some 17, some (15, false), (.p (.move (.t 1)))⟩,
   ⟨some 18, some (15, false), (.p (.ixs (.t 16) (.t 17)))⟩,
   ⟨some 19, some (15, false), (.p (.bin .eql .int (.t 18) (.c (.int .u8 9))))⟩,
   ⟨some 20, none, (.p (.pick (.t 15) (.c (.bool true)) (.t 19)))⟩,
   ⟨some 21, none, (.p (.move (.t 20)))⟩,
   ⟨some 22, some (21, false), (.p (.move (.t 0)))⟩,
   ⟨some 23, some (21, false), (.p (.move (.t 1)))⟩,
   ⟨some 24, some (21, false), (.p (.ixs (.t 22) (.t 23)))⟩,
   ⟨some 25, some (21, false), (.p (.bin .eql .int (.t 24) (.c (.int .u8 10))))⟩,
   ⟨some 26, none, (.p (.pick (.t 21) (.c (.bool true)) (.t 25)))⟩,
   ⟨some 27, none, (.p (.move (.t 26)))⟩,
   ⟨some 28, some (27, false), (.p (.move (.t 0)))⟩,
   ⟨some 29, some (27, false), (.p (.move (.t 1)))⟩,
   ⟨some 30, some (27, false), (.p (.ixs (.t 28) (.t 29)))⟩,
   ⟨some 31, some (27, false), (.p (.bin .eql .int (.t 30) (.c (.int .u8 13))))⟩,
   ⟨some 32, none, (.p (.pick (.t 27) (.c (.bool true)) (.t 31)))⟩,
   ⟨some 10, none, (.p (.move (.t 32)))⟩]) (.cond (.t 10) (.reg 
  [⟨some 33, none, (.p (.move (.t 1)))⟩,
   ⟨some 34, none, (.p (.bin .add .int (.t 33) (.c (.int .i64 1))))⟩,
   ⟨some 1, none, (.p (.move (.t 34)))⟩]) (.seq (.reg 
  [⟨some 36, none, (.p (.move (.t 0)))⟩,
   ⟨some 37, none, (.p (.move (.t 1)))⟩,
   ⟨some 38, none, (.p (.ixs (.t 36) (.t 37)))⟩,
   ⟨some 39, none, (.p (.bin .eql .int (.t 38) (.c (.int .u8 35))))⟩,
   ⟨some 35, none, (.p (.move (.t 39)))⟩]) (.cond (.t 35) (.block 3 (.loop (.seq (.seq (.reg 
  [⟨some 40, none, (.p (.move (.t 1)))⟩,
   ⟨some 41, none, (.p (.move (.t 0)))⟩,
   ⟨some 42, none, (.p (.lens (.t 41)))⟩,
   ⟨some 43, none, (.p (.bin .lss .int (.t 40) (.t 42)))⟩,
   ⟨some 44, none, (.p (.move (.t 43)))⟩,
   ⟨some 45, some (44, true), (.p (.move (.t 0)))⟩,
   ⟨some 46, some (44, true), (.p (.move (.t 1)))⟩,
   ⟨some 47, some (44, true), (.p (.ixs (.t 45) (.t 46)))⟩,
   ⟨some 48, some (44, true), (.p (.bin .neq .int (.t 47) (.c (.int .u8 10))))⟩,
   ⟨some 49, none, (.p (.pick (.t 44) (.t 48) (.c (.bool false))))⟩]) (.cond (.t 49) .skip (.exit 3))) (.block 4 (.reg 
  [⟨some 50, none, (.p (.move (.t 1)))⟩,
   ⟨some 51, none, (.p (.bin .add .int (.t 50) (.c (.int .i64 1))))⟩,
   ⟨some 1, none, (.p (.move (.t 51)))⟩]))))) (.seq (.reg 
  [⟨some 9, none, (.p (.move (.t 1)))⟩,
   ⟨some 4, none, (.p (.move (.t 9)))⟩]) .ret))))))))
theorem blank_body : x83.body = .seq (.reg 
  [⟨some 4, none, (.p (.move (.c (.int .i64 0))))⟩]) (.seq (.block 0 (.loop blankB)) (.seq (.reg 
  [⟨some 52, none, (.p (.move (.t 1)))⟩,
   ⟨some 4, none, (.p (.move (.t 52)))⟩]) .ret)) := by kernel_rfl
theorem blank_loop {call : Cal} {lim : Nat} {st : St} {s : List UInt8} (hs : s.length < 1000000) : ∀ (l : List UInt8) (n m : Nat) (tm : Tr AV), (∀ b ∈ l, Nat.beq b.toNat 35 = false) → s.drop n = l → n ≤ s.length → l.length < m → tm.get 0 = some (.str s) → tm.get 1 = some (.int .i64 (.ofNat n)) →
    runsTo (loopN (execX call lim blankB) m tm st) fun e tm' st' => st' = st ∧ (e = .exit 0 ∧ tm'.get 1 = some (.int .i64 (.ofNat (n + blankLen l))) ∨ e = .ret ∧ tm'.get 4 = some (.int .i64 (.ofNat (n + blankLen l)))) := by
  intro l
  induction l with
  | nil =>
    intro n m tm hq hl hn hm h0 h1
    obtain ⟨m, rfl⟩ : ∃ k, m = k + 1 := ⟨m - 1, by simp at hm; omega⟩
    have hlt : decide (n < s.length) = false := decide_eq_false (by have := drop_nil hl hn; omega)
    simp only [loop_succ, blankB, ex_seq, ex_reg, rx_nil, rx_free, rx_held, sx_yes, sx_no, wv_bool, wv_und, nx_some, sd_some, dx_p, ok_some, dp_move, dp_lens, dp_bin, dp_ixs, dp_pick, dx_call, evXs_nil, evXs_cons, evX_t, evX_c, Tr.get_set, List.append_nil, Option.getD_some, ex_cond, ex_block, ex_skip, ex_exit, ro_some, at_norm, at_exit, blk_norm, xPick, condV, runsTo, Nat.reduceEqDiff, reduceCtorEq, if_true, if_false, bb1, bb2, bb3, bb4, Bool.or_false, Bool.or_true, Bool.false_or, Bool.true_or, h0, h1, lss_nat, len_str, nat_of, hlt, blankLen, Nat.add_zero]
    exact ⟨trivial, .inl ⟨trivial, trivial⟩⟩
  | cons b l ih =>
    intro n m tm hq hl hn hm h0 h1
    obtain ⟨m, rfl⟩ : ∃ k, m = k + 1 := ⟨m - 1, by simp at hm; omega⟩
    obtain ⟨hb, hlt0, hl'⟩ := drop_nth hl
    have hlt : decide (n < s.length) = true := decide_eq_true hlt0
    have hadd := add_one (n := n) (by omega)
    have hix := ix_str hb
    have h35 := hq b (List.mem_cons_self ..)
    cases k1 : Nat.beq b.toNat 32 <;> cases k2 : Nat.beq b.toNat 9 <;> cases k3 : Nat.beq b.toNat 10 <;> cases k4 : Nat.beq b.toNat 13
    all_goals
      simp only [loop_succ, blankB, blk_ret, at_ret, ex_ret, ex_seq, ex_reg, rx_nil, rx_free, rx_held, sx_yes, sx_no, wv_bool, wv_und, nx_some, sd_some, dx_p, ok_some, dp_move, dp_lens, dp_bin, dp_ixs, dp_pick, dx_call, evXs_nil, evXs_cons, evX_t, evX_c, Tr.get_set, List.append_nil, Option.getD_some, ex_cond, ex_block, ex_skip, ex_exit, ro_some, at_norm, at_exit, blk_norm, xPick, condV, runsTo, Nat.reduceEqDiff, reduceCtorEq, if_true, if_false, bb1, bb2, bb3, bb4, Bool.or_false, Bool.or_true, Bool.false_or, Bool.true_or, h0, h1, lss_nat, len_str, nat_of, hlt, hadd, hix, e32, e9, e10, e13, e35, h35, k1, k2, k3, k4, blankLen, isSp, Nat.add_zero]
    all_goals first
      | exact ⟨trivial, .inr ⟨trivial, trivial⟩⟩
      | (refine (show n + (blankLen l + 1) = n + 1 + blankLen l by omega) ▸ ih (n + 1) m _ (fun b hb => hq b (List.mem_cons_of_mem _ hb)) hl' (by omega) (by simp at hm; omega) ?_ ?_ <;> simp only [Tr.get_set, h0, h1, Nat.reduceEqDiff, reduceCtorEq, if_true, if_false])
theorem blank_call {call : Cal} {lim : Nat} (st : St) {s : List UInt8} (hs : s.length < 1000000) (hl : s.length < lim) (hq : ∀ b ∈ s, Nat.beq b.toNat 35 = false) {n : Nat} (hn : n ≤ s.length) :
    endF [.t 4] (execX call lim x83.body (argsT [.str s, .int .i64 (.ofNat n)] 0 .nil) st) = some (.int .i64 (.ofNat (n + blankLen (s.drop n))), st) := by
  rw [blank_body]
  simp only [ex_seq, ex_reg, rx_nil, rx_free, rx_held, sx_yes, sx_no, wv_bool, wv_und, nx_some, sd_some, dx_p, ok_some, dp_move, dp_lens, dp_bin, dp_ixs, dp_pick, dx_call, evXs_nil, evXs_cons, evX_t, evX_c, Tr.get_set, List.append_nil, Option.getD_some, ex_cond, ex_block, ex_skip, ex_exit, ro_some, at_norm, at_exit, blk_norm, xPick, condV, runsTo, Nat.reduceEqDiff, reduceCtorEq, if_true, if_false, bb1, bb2, bb3, bb4, Bool.or_false, Bool.or_true, Bool.false_or, Bool.true_or, ex_loop]
  obtain ⟨e, tm', st', h1, rfl, h2⟩ := runs_elim (blank_loop (call := call) (lim := lim) (st := st) hs (s.drop n) n lim ((argsT [.str s, .int .i64 (.ofNat n)] 0 .nil).set 4 (.int .i64 0)) (fun b hb => hq b (List.mem_of_mem_drop hb)) rfl hn (by rw [List.length_drop]; omega) (by simp only [Tr.get_set, args2_0, Nat.reduceEqDiff, reduceCtorEq, if_false]) (by simp only [Tr.get_set, args2_1, Nat.reduceEqDiff, reduceCtorEq, if_false]))
  rw [h1]
  rcases h2 with ⟨rfl, h2⟩ | ⟨rfl, h2⟩
  · simp only [blk_exit, ex_seq, ex_reg, rx_nil, rx_free, rx_held, sx_yes, sx_no, wv_bool, wv_und, nx_some, sd_some, dx_p, ok_some, dp_move, dp_lens, dp_bin, dp_ixs, dp_pick, dx_call, evXs_nil, evXs_cons, evX_t, evX_c, Tr.get_set, List.append_nil, Option.getD_some, ex_cond, ex_block, ex_skip, ex_exit, ro_some, at_norm, at_exit, blk_norm, xPick, condV, runsTo, Nat.reduceEqDiff, reduceCtorEq, if_true, if_false, bb1, bb2, bb3, bb4, Bool.or_false, Bool.or_true, Bool.false_or, Bool.true_or, ex_ret, end_t, h2]
  · simp only [blk_ret, at_ret, ex_seq, ex_reg, rx_nil, rx_free, rx_held, sx_yes, sx_no, wv_bool, wv_und, nx_some, sd_some, dx_p, ok_some, dp_move, dp_lens, dp_bin, dp_ixs, dp_pick, dx_call, evXs_nil, evXs_cons, evX_t, evX_c, Tr.get_set, List.append_nil, Option.getD_some, ex_cond, ex_block, ex_skip, ex_exit, ro_some, at_norm, at_exit, blk_norm, xPick, condV, runsTo, Nat.reduceEqDiff, reduceCtorEq, if_true, if_false, bb1, bb2, bb3, bb4, Bool.or_false, Bool.or_true, Bool.false_or, Bool.true_or, ex_ret, end_t, h2]
def subsV (s : List UInt8) : Option Nat → Option Nat → Option AV
  | some l, some h => match Nat.ble l h && Nat.ble h s.length with
    | true => some (.str ((s.take h).drop l))
    | false => none
  | _, _ => none
theorem dp_subs {tm : Tr AV} (x a b : XO) : doP tm (.subs x (some a) (some b)) = xSubs tm (some a) (some b) (evX tm x) := rfl
theorem subs_str {tm : Tr AV} (a b : XO) (s : List UInt8) : xSubs tm (some a) (some b) (.str s) = subsV s (natOf (evX tm a)) (natOf (evX tm b)) := by
  unfold xSubs bounds subsV
  dsimp only
  cases natOf (evX tm a) <;> cases natOf (evX tm b) <;> dsimp only
  rename_i l h
  cases Nat.ble l h && Nat.ble h s.length <;> rfl
theorem subsV_ok {s : List UInt8} {l h : Nat} (h1 : l ≤ h) (h2 : h ≤ s.length) : subsV s (some l) (some h) = some (.str ((s.take h).drop l)) := by
  unfold subsV
  have e1 : Nat.ble l h = true := by rw [Nat.ble_eq]; exact h1
  have e2 : Nat.ble h s.length = true := by rw [Nat.ble_eq]; exact h2
  simp only [e1, e2, Bool.and_true]
theorem add_two {n : Nat} (h : n < 1000000000) : binA .add .int (.int .i64 (.ofNat n)) (.int .i64 2) = some (.int .i64 (.ofNat (n + 2))) := by
  show some (AV.int .i64 (IntKind.i64.wrap ((n : Int) + 2))) = _
  rw [wrap_small (by omega) (by omega)]; rfl
theorem eql_str (a b : List UInt8) : binA .eql .str (.str a) (.str b) = some (.bool (eqL a b)) := rfl
theorem ex_regd0 {call : Cal} {lim : Nat} {tm : Tr AV} {st : St} (ops : List XR) : execX call lim (.regd [] ops []) tm st = R.of (runX call ops tm st) := rfl
def sgAny : List UInt8 → UInt8 → Bool
  | [], _ => false
  | x :: l, c => Nat.beq c.toNat x.toNat || sgAny l c
def twoS (c : UInt8) : List UInt8 → Bool
  | [] => false
  | d :: _ => eqL [c, d] [61, 61] || eqL [c, d] [45, 62]
def SG : List UInt8 := [123, 125, 91, 93, 40, 41, 59, 58, 44, 46, 61, 60, 43, 45, 42, 47, 37]
def signLen : List UInt8 → Nat
  | [] => 0
  | c :: l => match twoS c l with
    | true => 2
    | false => match sgAny SG c with
      | true => 1
      | false => 0
def signB : XC := (.seq (.seq (.reg 
  [⟨some 30, none, (.p (.move (.t 6)))⟩,
   ⟨some 31, none, (.p (.move (.t 5)))⟩,
   ⟨some 32, none, (.p (.lens (.t 31)))⟩,
   ⟨some 33, none, (.p (.bin .lss .int (.t 30) (.t 32)))⟩]) (.cond (.t 33) .skip (.exit 0))) (.seq (.block 1 (.seq (.regd [] 
  [⟨some 36, none, (.p (.move (.t 0)))⟩,
   ⟨some 37, none, (.p (.move (.t 1)))⟩,
   ⟨some 38, none, (.p (.ixs (.t 36) (.t 37)))⟩,
   ⟨some 39, none, (.p (.move (.t 5)))⟩,
   ⟨some 40, none, (.p (.move (.t 6)))⟩,
   ⟨some 41, none, (.p (.ixs (.t 39) (.t 40)))⟩,
   ⟨some 42, none, (.p (.bin .eql .int (.t 38) (.t 41)))⟩] []) (.cond (.t 42) (.seq (.reg 
  [⟨some 43, none, (.p (.move (.t 1)))⟩,
   ⟨some 44, none, (.p (.bin .add .int (.t 43) (.c (.int .i64 1))))⟩,
   ⟨some 4, none, (.p (.move (.t 44)))⟩]) .ret) .skip))) (.reg 
  [⟨some 34, none, (.p (.move (.t 6)))⟩,
   ⟨some 35, none, (.p (.bin .add .int (.t 34) (.c (.int .i64 1))))⟩,
   ⟨some 6, none, (.p (.move (.t 35)))⟩])))
theorem sign_body : x168.body = .seq (.reg 
  [⟨some 4, none, (.p (.move (.c (.int .i64 0))))⟩]) (.seq (.seq (.reg 
  [⟨some 7, none, (.p (.move (.t 1)))⟩,
   ⟨some 8, none, (.p (.bin .add .int (.t 7) (.c (.int .i64 1))))⟩,
   ⟨some 9, none, (.p (.move (.t 0)))⟩,
   ⟨some 10, none, (.p (.lens (.t 9)))⟩,
   ⟨some 11, none, (.p (.bin .lss .int (.t 8) (.t 10)))⟩,
   ⟨some 12, none, (.p (.move (.t 11)))⟩,
   ⟨some 13, some (12, true), (.p (.move (.t 0)))⟩,
   ⟨some 14, some (12, true), (.p (.move (.t 1)))⟩,
   ⟨some 15, some (12, true), (.p (.move (.t 1)))⟩,
   ⟨some 16, some (12, true), (.p (.bin .add .int (.t 15) (.c (.int .i64 2))))⟩,
   ⟨some 17, some (12, true), (.p (.subs (.t 13) (some (.t 14)) (some (.t 16))))⟩,
   ⟨some 18, some (12, true), (.p (.bin .eql .str (.t 17) (.c (.str [61, 61]))))⟩,
   ⟨some 19, some (12, true), (.p (.move (.t 18)))⟩,
   ⟨some 20, some (19, false), (.p (.move (.t 0)))⟩,
   ⟨some 21, some (19, false), (.p (.move (.t 1)))⟩,
   ⟨some 22, some (19, false), (.p (.move (.t 1)))⟩,
   ⟨some 23, some (19, false), (.p (.bin .add .int (.t 22) (.c (.int .i64 2))))⟩,
   ⟨some 24, some (19, false), (.p (.subs (.t 20) (some (.t 21)) (some (.t 23))))⟩,
   ⟨some 25, some (19, false), (.p (.bin .eql .str (.t 24) (.c (.str [45, 62]))))⟩,
   ⟨some 26, some (12, true), (.p (.pick (.t 19) (.c (.bool true)) (.t 25)))⟩,
   ⟨some 27, none, (.p (.pick (.t 12) (.t 26) (.c (.bool false))))⟩]) (.cond (.t 27) (.seq (.reg 
  [⟨some 28, none, (.p (.move (.t 1)))⟩,
   ⟨some 29, none, (.p (.bin .add .int (.t 28) (.c (.int .i64 2))))⟩,
   ⟨some 4, none, (.p (.move (.t 29)))⟩]) .ret) .skip)) (.seq (.reg 
  [⟨some 5, none, (.p (.move (.c (.str [123, 125, 91, 93, 40, 41, 59, 58, 44, 46, 61, 60, 43, 45, 42, 47, 37]))))⟩]) (.seq (.seq (.reg 
  [⟨some 6, none, (.p (.move (.c (.int .i64 0))))⟩]) (.block 0 (.loop signB))) (.seq (.reg 
  [⟨some 45, none, (.p (.move (.t 1)))⟩,
   ⟨some 4, none, (.p (.move (.t 45)))⟩]) .ret)))) := by kernel_rfl
theorem sign_loop {call : Cal} {lim : Nat} {st : St} {s G : List UInt8} {n : Nat} {c : UInt8} (hn : n < 1000000) (hG : G.length < 1000) (hc : nth s n = some c) : ∀ (l : List UInt8) (i m : Nat) (tm : Tr AV), G.drop i = l → i ≤ G.length → l.length < m → tm.get 0 = some (.str s) → tm.get 1 = some (.int .i64 (.ofNat n)) → tm.get 5 = some (.str G) → tm.get 6 = some (.int .i64 (.ofNat i)) →
    runsTo (loopN (execX call lim signB) m tm st) fun e tm' st' => st' = st ∧ (e = .exit 0 ∧ sgAny l c = false ∧ tm'.get 1 = some (.int .i64 (.ofNat n)) ∨ e = .ret ∧ sgAny l c = true ∧ tm'.get 4 = some (.int .i64 (.ofNat (n + 1)))) := by
  intro l
  induction l with
  | nil =>
    intro i m tm hl hi hm h0 h1 h5 h6
    obtain ⟨m, rfl⟩ : ∃ k, m = k + 1 := ⟨m - 1, by simp at hm; omega⟩
    have hlt : decide (i < G.length) = false := decide_eq_false (by have := drop_nil hl hi; omega)
    simp only [loop_succ, signB, ex_seq, ex_reg, rx_nil, rx_free, rx_held, sx_yes, sx_no, wv_bool, wv_und, nx_some, sd_some, dx_p, ok_some, dp_move, dp_lens, dp_bin, dp_ixs, dp_pick, dx_call, evXs_nil, evXs_cons, evX_t, evX_c, Tr.get_set, List.append_nil, Option.getD_some, ex_cond, ex_block, ex_skip, ex_exit, ro_some, at_norm, at_exit, blk_norm, xPick, condV, runsTo, Nat.reduceEqDiff, reduceCtorEq, if_true, if_false, bb1, bb2, bb3, bb4, Bool.or_false, Bool.or_true, Bool.false_or, Bool.true_or, h0, h1, h5, h6, lss_nat, len_str, nat_of, hlt, sgAny]
    exact ⟨trivial, .inl ⟨trivial, trivial, trivial⟩⟩
  | cons b l ih =>
    intro i m tm hl hi hm h0 h1 h5 h6
    obtain ⟨m, rfl⟩ : ∃ k, m = k + 1 := ⟨m - 1, by simp at hm; omega⟩
    obtain ⟨hb, hlt0, hl'⟩ := drop_nth hl
    have hlt : decide (i < G.length) = true := decide_eq_true hlt0
    have hadd := add_one (n := n) (by omega)
    have haddi := add_one (n := i) (by omega)
    have hix := ix_str hb
    have hixs := ix_str hc
    cases k : Nat.beq c.toNat b.toNat
    all_goals
      simp only [loop_succ, signB, blk_ret, at_ret, ex_ret, ex_regd0, ex_seq, ex_reg, rx_nil, rx_free, rx_held, sx_yes, sx_no, wv_bool, wv_und, nx_some, sd_some, dx_p, ok_some, dp_move, dp_lens, dp_bin, dp_ixs, dp_pick, dx_call, evXs_nil, evXs_cons, evX_t, evX_c, Tr.get_set, List.append_nil, Option.getD_some, ex_cond, ex_block, ex_skip, ex_exit, ro_some, at_norm, at_exit, blk_norm, xPick, condV, runsTo, Nat.reduceEqDiff, reduceCtorEq, if_true, if_false, bb1, bb2, bb3, bb4, Bool.or_false, Bool.or_true, Bool.false_or, Bool.true_or, h0, h1, h5, h6, lss_nat, len_str, nat_of, hlt, hadd, haddi, hix, hixs, eql_u8, k, sgAny]
    · exact ih (i + 1) m _ hl' (by omega) (by simp at hm; omega) (by simp only [Tr.get_set, h0, Nat.reduceEqDiff, reduceCtorEq, if_true, if_false]) (by simp only [Tr.get_set, h1, Nat.reduceEqDiff, reduceCtorEq, if_true, if_false]) (by simp only [Tr.get_set, h5, Nat.reduceEqDiff, reduceCtorEq, if_true, if_false]) (by simp only [Tr.get_set, Nat.reduceEqDiff, reduceCtorEq, if_true, if_false])
    · exact ⟨trivial, .inr ⟨trivial, trivial, trivial⟩⟩
theorem sign_tail {call : Cal} {lim : Nat} {st : St} {s : List UInt8} {n : Nat} {c : UInt8} (hn : n < 1000000) (hl : 1000 ≤ lim) (hc : nth s n = some c) (tm : Tr AV) (h0 : tm.get 0 = some (.str s)) (h1 : tm.get 1 = some (.int .i64 (.ofNat n))) (h5 : tm.get 5 = some (.str SG)) (h6 : tm.get 6 = some (.int .i64 (.ofNat 0))) :
    endF [.t 4] (R.andThen (R.block 0 (loopN (execX call lim signB) lim tm st)) (execX call lim (.seq (.reg 
  [⟨some 45, none, (.p (.move (.t 1)))⟩,
   ⟨some 4, none, (.p (.move (.t 45)))⟩]) .ret))) = some (.int .i64 (.ofNat (n + match sgAny SG c with | true => 1 | false => 0)), st) := by
  obtain ⟨e, tm', st', h, rfl, h2⟩ := runs_elim (sign_loop (call := call) (lim := lim) (st := st) hn (by decide) hc SG 0 lim tm rfl (by decide) (by show 17 < lim; omega) h0 h1 h5 h6)
  rw [h]
  rcases h2 with ⟨rfl, h2, h3⟩ | ⟨rfl, h2, h3⟩
  · simp only [blk_exit, ex_seq, ex_reg, rx_nil, rx_free, rx_held, sx_yes, sx_no, wv_bool, wv_und, nx_some, sd_some, dx_p, ok_some, dp_move, dp_lens, dp_bin, dp_ixs, dp_pick, dx_call, evXs_nil, evXs_cons, evX_t, evX_c, Tr.get_set, List.append_nil, Option.getD_some, ex_cond, ex_block, ex_skip, ex_exit, ro_some, at_norm, at_exit, blk_norm, xPick, condV, runsTo, Nat.reduceEqDiff, reduceCtorEq, if_true, if_false, bb1, bb2, bb3, bb4, Bool.or_false, Bool.or_true, Bool.false_or, Bool.true_or, ex_ret, end_t, h2, h3, Nat.add_zero]
  · simp only [blk_ret, at_ret, ex_seq, ex_reg, rx_nil, rx_free, rx_held, sx_yes, sx_no, wv_bool, wv_und, nx_some, sd_some, dx_p, ok_some, dp_move, dp_lens, dp_bin, dp_ixs, dp_pick, dx_call, evXs_nil, evXs_cons, evX_t, evX_c, Tr.get_set, List.append_nil, Option.getD_some, ex_cond, ex_block, ex_skip, ex_exit, ro_some, at_norm, at_exit, blk_norm, xPick, condV, runsTo, Nat.reduceEqDiff, reduceCtorEq, if_true, if_false, bb1, bb2, bb3, bb4, Bool.or_false, Bool.or_true, Bool.false_or, Bool.true_or, ex_ret, end_t, h2, h3]
theorem sign_call {call : Cal} {lim : Nat} (st : St) {s : List UInt8} (hs : s.length < 1000000) (hl : 1000 ≤ lim) {n : Nat} (hn : n < s.length) :
    endF [.t 4] (execX call lim x168.body (argsT [.str s, .int .i64 (.ofNat n)] 0 .nil) st) = some (.int .i64 (.ofNat (n + signLen (s.drop n))), st) := by
  obtain ⟨c, l, hd⟩ : ∃ c l, s.drop n = c :: l := by rw [List.drop_eq_getElem_cons hn]; exact ⟨_, _, rfl⟩
  obtain ⟨hc, _, hd'⟩ := drop_nth hd
  have hadd1 := add_one (n := n) (by omega)
  have hadd2 := add_two (n := n) (by omega)
  rw [sign_body, hd]
  cases l with
  | nil =>
    have hlt : decide (n + 1 < s.length) = false := decide_eq_false (by have := drop_nil hd' (by omega); omega)
    simp only [ex_seq, ex_reg, rx_nil, rx_free, rx_held, sx_yes, sx_no, wv_bool, wv_und, nx_some, sd_some, dx_p, ok_some, dp_move, dp_lens, dp_bin, dp_ixs, dp_pick, dx_call, evXs_nil, evXs_cons, evX_t, evX_c, Tr.get_set, List.append_nil, Option.getD_some, ex_cond, ex_block, ex_skip, ex_exit, ro_some, at_norm, at_exit, blk_norm, xPick, condV, runsTo, Nat.reduceEqDiff, reduceCtorEq, if_true, if_false, bb1, bb2, bb3, bb4, Bool.or_false, Bool.or_true, Bool.false_or, Bool.true_or, ex_loop, args2_0, args2_1, hadd1, lss_nat, len_str, hlt, signLen, twoS]
    exact sign_tail (by omega) hl hc _ (by simp only [Tr.get_set, args2_0, Nat.reduceEqDiff, reduceCtorEq, if_true, if_false]) (by simp only [Tr.get_set, args2_1, Nat.reduceEqDiff, reduceCtorEq, if_true, if_false]) (by simp only [Tr.get_set, Nat.reduceEqDiff, reduceCtorEq, if_true, if_false]; rfl) (by simp only [Tr.get_set, Nat.reduceEqDiff, reduceCtorEq, if_true, if_false]; rfl)
  | cons d l =>
    obtain ⟨hd2, hlt0, _⟩ := drop_nth hd'
    have hlt : decide (n + 1 < s.length) = true := decide_eq_true hlt0
    have hsub : subsV s (some n) (some (n + 2)) = some (.str [c, d]) := by
      rw [subsV_ok (by omega) (by omega)]
      congr 2
      rw [List.drop_take, hd, show n + 2 - n = 2 by omega]; rfl
    cases q1 : eqL [c, d] [61, 61] <;> cases q2 : eqL [c, d] [45, 62]
    all_goals
      simp only [blk_ret, at_ret, ex_ret, end_t, dp_subs, subs_str, ex_seq, ex_reg, rx_nil, rx_free, rx_held, sx_yes, sx_no, wv_bool, wv_und, nx_some, sd_some, dx_p, ok_some, dp_move, dp_lens, dp_bin, dp_ixs, dp_pick, dx_call, evXs_nil, evXs_cons, evX_t, evX_c, Tr.get_set, List.append_nil, Option.getD_some, ex_cond, ex_block, ex_skip, ex_exit, ro_some, at_norm, at_exit, blk_norm, xPick, condV, runsTo, Nat.reduceEqDiff, reduceCtorEq, if_true, if_false, bb1, bb2, bb3, bb4, Bool.or_false, Bool.or_true, Bool.false_or, Bool.true_or, ex_loop, args2_0, args2_1, hadd1, hadd2, lss_nat, len_str, nat_of, hlt, hsub, eql_str, q1, q2, signLen, twoS]
    exact sign_tail (by omega) hl hc _ (by simp only [Tr.get_set, args2_0, Nat.reduceEqDiff, reduceCtorEq, if_true, if_false]) (by simp only [Tr.get_set, args2_1, Nat.reduceEqDiff, reduceCtorEq, if_true, if_false]) (by simp only [Tr.get_set, Nat.reduceEqDiff, reduceCtorEq, if_true, if_false]; rfl) (by simp only [Tr.get_set, Nat.reduceEqDiff, reduceCtorEq, if_true, if_false]; rfl)
/-- What the other parts of the scanner are asked. -/
structure CallSc (lim : Nat) (call : Cal) : Prop extends CallLD call where
  w : ∀ (s : List UInt8) (n : Nat) st, s.length < 1000000 → s.length < lim → n ≤ s.length → call 164 [.str s, .int .i64 (.ofNat n)] st = some (.int .i64 (.ofNat (n + wordLen (s.drop n))), st)
  m : ∀ (s : List UInt8) (n : Nat) st, s.length < 1000000 → s.length < lim → n ≤ s.length → call 166 [.str s, .int .i64 (.ofNat n)] st = some (.int .i64 (.ofNat (n + numeLen (s.drop n))), st)
  g : ∀ (s : List UInt8) (n : Nat) st, s.length < 1000000 → 1000 ≤ lim → n < s.length → call 168 [.str s, .int .i64 (.ofNat n)] st = some (.int .i64 (.ofNat (n + signLen (s.drop n))), st)
  b : ∀ (s : List UInt8) (n : Nat) st, s.length < 1000000 → s.length < lim → (∀ b ∈ s, Nat.beq b.toNat 35 = false) → n ≤ s.length → call 83 [.str s, .int .i64 (.ofNat n)] st = some (.int .i64 (.ofNat (n + blankLen (s.drop n))), st)
  t : ∀ (s : List UInt8) st, s.length < 19 → call 167 [.str s] st = some (.bool false, st)
theorem large_call {call : Cal} {lim : Nat} (st : St) {s : List UInt8} (hs : s.length < 19) : endF [.t 2] (execX call lim x167.body (argsT [.str s] 0 .nil) st) = some (.bool false, st) := by
  have h1 : binA .gtr .int (.int .i64 (.ofNat s.length)) (.int .i64 (.ofNat 19)) = some (.bool false) := by
    show some (AV.bool (decide ((s.length : Int) > 19))) = _
    rw [decide_eq_false (by omega)]
  have h2 : binA .eql .int (.int .i64 (.ofNat s.length)) (.int .i64 (.ofNat 19)) = some (.bool false) := by
    show some (AV.bool (Nat.beq s.length 19)) = _
    rw [natBeq, decide_eq_false (by omega)]
  have hl : xLens (.str [57, 50, 50, 51, 51, 55, 50, 48, 51, 54, 56, 53, 52, 55, 55, 53, 56, 48, 56]) = some (.int .i64 (.ofNat 19)) := rfl
  have h0 : (argsT [.str s] 0 .nil).get 0 = some (.str s) := rfl
  have eb : x167.body = (.seq (.reg 
  [⟨some 2, none, (.p (.move (.c (.bool false))))⟩]) (.seq (.reg 
  [⟨some 3, none, (.p (.move (.c (.str [57, 50, 50, 51, 51, 55, 50, 48, 51, 54, 56, 53, 52, 55, 55, 53, 56, 48, 56]))))⟩]) (.seq (.reg 
  [⟨some 4, none, (.p (.move (.t 0)))⟩,
   ⟨some 5, none, (.p (.lens (.t 4)))⟩,
   ⟨some 6, none, (.p (.move (.t 3)))⟩,
   ⟨some 7, none, (.p (.lens (.t 6)))⟩,
   ⟨some 8, none, (.p (.bin .gtr .int (.t 5) (.t 7)))⟩,
   ⟨some 9, none, (.p (.move (.t 8)))⟩,
   ⟨some 10, some (9, false), (.p (.move (.t 0)))⟩,
   ⟨some 11, some (9, false), (.p (.lens (.t 10)))⟩,
   ⟨some 12, some (9, false), (.p (.move (.t 3)))⟩,
   ⟨some 13, some (9, false), (.p (.lens (.t 12)))⟩,
   ⟨some 14, some (9, false), (.p (.bin .eql .int (.t 11) (.t 13)))⟩,
   ⟨some 15, some (9, false), (.p (.move (.t 14)))⟩,
   ⟨some 16, some (15, true), (.p (.move (.t 0)))⟩,
   ⟨some 17, some (15, true), (.p (.move (.t 3)))⟩,
   ⟨some 18, some (15, true), (.p (.bin .gtr .str (.t 16) (.t 17)))⟩,
   ⟨some 19, some (9, false), (.p (.pick (.t 15) (.t 18) (.c (.bool false))))⟩,
   ⟨some 20, none, (.p (.pick (.t 9) (.c (.bool true)) (.t 19)))⟩,
   ⟨some 2, none, (.p (.move (.t 20)))⟩]) .ret))) := by kernel_rfl
  rw [eb]
  simp only [ex_seq, ex_reg, rx_nil, rx_free, rx_held, sx_yes, sx_no, wv_bool, wv_und, nx_some, sd_some, dx_p, ok_some, dp_move, dp_lens, dp_bin, dp_ixs, dp_pick, dx_call, evXs_nil, evXs_cons, evX_t, evX_c, Tr.get_set, List.append_nil, Option.getD_some, ex_cond, ex_block, ex_skip, ex_exit, ro_some, at_norm, at_exit, blk_norm, xPick, condV, runsTo, Nat.reduceEqDiff, reduceCtorEq, if_true, if_false, bb1, bb2, bb3, bb4, Bool.or_false, Bool.or_true, Bool.false_or, Bool.true_or, ex_ret, end_t, h0, hl, len_str, h1, h2]
theorem callSc (lim d : Nat) : CallSc lim (callN envW lim (d + 2)) where
  toCallLD := callLD lim (d + 1)
  w s n st h1 h2 h3 := word_call (callLD lim d) st h1 h2 h3
  m s n st h1 h2 h3 := nume_call (callLD lim d) st h1 h2 h3
  g s n st h1 h2 h3 := sign_call st h1 h2 h3
  b s n st h1 h2 h3 h4 := blank_call st h1 h2 h3 h4
  t s st h := large_call st h
theorem dx_alloc {call : Cal} {tm : Tr AV} {st : St} (cs : List AV) : doX call st tm (.e (.alloc cs)) = some (.ptr st.next 0, st.new (.box 0 cs)) := rfl
theorem dx_store {call : Cal} {tm : Tr AV} {st : St} (size : Nat) (a x : XO) : doX call st tm (.e (.store size a x)) = xStore st size (evX tm a) (evX tm x) := rfl
theorem sd_none {tm : Tr AV} (v : AV) : setD tm none v = tm := rfl
theorem dp_build {tm : Tr AV} (z : List AV) (ps : List (Nat × Nat × XO)) : doP tm (.build z ps) = xAgg (fillS tm ps z) := rfl
theorem tok_fill {tm : Tr AV} (a b : XO) (k : Nat) {t : List UInt8} {n : Int} (ha : evX tm a = .str t) (hb : evX tm b = .int .i64 n) : xAgg (fillS tm [(0, 1, (.c (.int .i64 (.ofNat k)))), (1, 1, a), (2, 1, b)] [(.int .i64 0), (.str []), (.int .i64 0)]) = some (.agg [.int .i64 (.ofNat k), .str t, .int .i64 n]) := by
  have hx : fillS tm [(0, 1, (.c (.int .i64 (.ofNat k)))), (1, 1, a), (2, 1, b)] [(.int .i64 0), (.str []), (.int .i64 0)] = (fun x y : AV => Bool.rec (motive := fun _ => Option (List AV)) none (Bool.rec (motive := fun _ => Option (List AV)) none (some (splice (splice (splice [(.int .i64 0), (.str []), (.int .i64 0)] 0 [.int .i64 (.ofNat k)]) 1 x.cells) 2 y.cells)) (Nat.beq y.cells.length 1)) (Nat.beq x.cells.length 1)) (evX tm a) (evX tm b) := rfl
  rw [hx, ha, hb]
  rfl
theorem store_new {st : St} {cs : List AV} (size : Nat) (v : List AV) (h : v.length = size) (h2 : cs.length = size) : xStore (st.new (.box 0 cs)) size (.ptr st.next 0) (.agg v) = some (und, (st.new (.box 0 cs)).put st.next (.box 1 (splice cs 0 v))) := by
  have e : (st.new (.box 0 cs)).heap.get st.next = some (.box 0 cs) := by rw [get_new]; rw [if_pos rfl]
  unfold xStore
  simp only [e]
  have e1 : Nat.beq (AV.agg v).cells.length size = true := by show Nat.beq v.length size = true; rw [h, natBeq]; simp
  have e2 : Nat.ble (0 + size) cs.length = true := by rw [Nat.ble_eq]; omega
  simp only [e1, e2, Bool.and_true]
  rfl
theorem end_cell {tm : Tr AV} {st : St} {k : Nat} {a b c v : AV} (h : tm.get 4 = some (.ptr k 0)) (h1 : st.heap.get k = some (.box 1 [a, b, c])) (h5 : tm.get 5 = some v) : endF [.cell 4 3 true, .t 5] (.ok .ret tm st) = some (.tup [.agg [a, b, c], v], st) := by
  have e1 : evX tm (.t 4) = .ptr k 0 := by rw [evX_t, h]; rfl
  have e2 : resOf tm st (.cell 4 3 true) = some (.agg [a, b, c]) := by
    unfold resOf
    simp only [e1, cellsAt, h1]
    rfl
  have e3 : resOf tm st (.t 5) = some v := by
    show some (evX tm (.t 5)) = _
    rw [evX_t, h5]; rfl
  show (match resL tm st [.cell 4 3 true, .t 5] with | some vs => some (tupOf vs, st) | none => none) = _
  have e4 : resL tm st [.cell 4 3 true, .t 5] = some [.agg [a, b, c], v] := by
    unfold resL
    rw [e2]
    unfold resL
    rw [e3]
    rfl
  rw [e4]
  rfl
/-- Kind and length of the token that begins a text; nothing where something is wrong with it. -/
def tokP : List UInt8 → Option (Nat × Nat)
  | [] => none
  | c :: l => match isLet c.toNat with
    | true => match Nat.ble (wordLen (c :: l)) 16 with
      | true => some (1, wordLen (c :: l))
      | false => none
    | false => match isDig c.toNat with
      | true => match Nat.beq (numeLen (c :: l)) 1 with
        | true => some (2, 1)
        | false => none
      | false => match Nat.beq (signLen (c :: l)) 0 with
        | true => none
        | false => some (3, signLen (c :: l))
theorem sub_nat {a b : Nat} (h : b ≤ a) (ha : a < 1000000000) : binA .sub .int (.int .i64 (.ofNat a)) (.int .i64 (.ofNat b)) = some (.int .i64 (.ofNat (a - b))) := by
  show some (AV.int .i64 (IntKind.i64.wrap ((a : Int) - b))) = _
  rw [wrap_small (by omega) (by omega), show (a : Int) - b = ((a - b : Nat) : Int) by omega]; rfl
theorem gtr16 (a : Nat) : binA .gtr .int (.int .i64 (.ofNat a)) (.int .i64 16) = some (.bool (decide (16 < a))) := by
  show some (AV.bool (decide ((a : Int) > 16))) = _
  rw [show decide ((a : Int) > 16) = decide (16 < a) from decide_eq_decide.2 (by omega)]
theorem gtr1 (a : Nat) : binA .gtr .int (.int .i64 (.ofNat a)) (.int .i64 1) = some (.bool (decide (1 < a))) := by
  show some (AV.bool (decide ((a : Int) > 1))) = _
  rw [show decide ((a : Int) > 1) = decide (1 < a) from decide_eq_decide.2 (by omega)]
theorem eql_nat (a b : Nat) : binA .eql .int (.int .i64 (.ofNat a)) (.int .i64 (.ofNat b)) = some (.bool (Nat.beq a b)) := rfl
theorem wordLen_le : ∀ l : List UInt8, wordLen l ≤ l.length
  | [] => Nat.le_refl _
  | b :: l => by
    have := wordLen_le l
    unfold wordLen
    split <;> simp <;> omega
theorem numeLen_le : ∀ l : List UInt8, numeLen l ≤ l.length
  | [] => Nat.le_refl _
  | b :: l => by
    have := numeLen_le l
    unfold numeLen
    split <;> simp <;> omega
theorem two_le (p q : Bool) : (match p with | true => 2 | false => match q with | true => 1 | false => 0 : Nat) ≤ 2 := by cases p <;> cases q <;> decide
theorem one_le (q : Bool) : (match q with | true => 1 | false => 0 : Nat) ≤ 1 := by cases q <;> decide
theorem signLen_le (l : List UInt8) : signLen l ≤ l.length := by
  cases l with
  | nil => exact Nat.le_refl _
  | cons c l =>
    cases l with
    | nil => exact one_le (sgAny SG c)
    | cons d l => exact Nat.le_trans (two_le (twoS c (d :: l)) (sgAny SG c)) (by simp)
def tokV (v x y : AV) : Option AV := xAgg (Bool.rec (motive := fun _ => Option (List AV)) none (Bool.rec (motive := fun _ => Option (List AV)) none (Bool.rec (motive := fun _ => Option (List AV)) none (some (splice (splice (splice [(.int .i64 0), (.str []), (.int .i64 0)] 0 v.cells) 1 x.cells) 2 y.cells)) (Nat.beq y.cells.length 1)) (Nat.beq x.cells.length 1)) (Nat.beq v.cells.length 1))
theorem dp_tok {tm : Tr AV} (v : AV) (a b : XO) : doP tm (.build [(.int .i64 0), (.str []), (.int .i64 0)] [(0, 1, (.c v)), (1, 1, a), (2, 1, b)]) = tokV v (evX tm a) (evX tm b) := rfl
theorem tokV_ok (k : Int) (t : List UInt8) (n : Int) : tokV (.int .i64 k) (.str t) (.int .i64 n) = some (.agg [.int .i64 k, .str t, .int .i64 n]) := rfl
theorem store3 {st : St} (x y z a b c : AV) : xStore (st.new (.box 0 [x, y, z])) 3 (.ptr st.next 0) (.agg [a, b, c]) = some (und, (st.new (.box 0 [x, y, z])).put st.next (.box 1 [a, b, c])) := store_new 3 _ rfl rfl
theorem next_body : x84.body = (.seq (.reg 
  [⟨some 4, none, (.e (.alloc [(.int .i64 0), (.str []), (.int .i64 0)]))⟩,
   ⟨some 5, none, (.p (.move (.c (.int .i64 0))))⟩]) (.seq (.seq (.reg 
  [⟨some 9, none, (.p (.move (.t 0)))⟩,
   ⟨some 10, none, (.p (.move (.t 1)))⟩,
   ⟨some 11, none, (.p (.ixs (.t 9) (.t 10)))⟩,
   ⟨some 12, none, (.e (.call (.c (.fn 163 [] [])) [(.t 11)]))⟩]) (.cond (.t 12) (.seq (.reg 
  [⟨some 13, none, (.p (.move (.t 0)))⟩,
   ⟨some 14, none, (.p (.move (.t 1)))⟩,
   ⟨some 15, none, (.e (.call (.c (.fn 164 [] [])) [(.t 13), (.t 14)]))⟩,
   ⟨some 6, none, (.p (.move (.t 15)))⟩]) (.seq (.seq (.reg 
  [⟨some 16, none, (.p (.move (.t 6)))⟩,
   ⟨some 17, none, (.p (.move (.t 1)))⟩,
   ⟨some 18, none, (.p (.bin .sub .int (.t 16) (.t 17)))⟩,
   ⟨some 19, none, (.p (.bin .gtr .int (.t 18) (.c (.int .i64 16))))⟩]) (.cond (.t 19) (.seq (.reg 
  [⟨some 20, none, (.p (.build [(.int .i64 0), (.str []), (.int .i64 0)] []))⟩,
   ⟨none, none, (.e (.store 3 (.t 4) (.t 20)))⟩,
   ⟨some 5, none, (.p (.move (.c (.int .i64 4))))⟩]) .ret) .skip)) (.seq (.reg 
  [⟨some 21, none, (.p (.move (.t 0)))⟩,
   ⟨some 22, none, (.p (.move (.t 1)))⟩,
   ⟨some 23, none, (.p (.move (.t 6)))⟩,
   ⟨some 24, none, (.p (.subs (.t 21) (some (.t 22)) (some (.t 23))))⟩,
   ⟨some 25, none, (.p (.move (.t 1)))⟩,
   ⟨some 26, none, (.p (.build [(.int .i64 0), (.str []), (.int .i64 0)] [(0, 1, (.c (.int .i64 1))), (1, 1, (.t 24)), (2, 1, (.t 25))]))⟩,
   ⟨none, none, (.e (.store 3 (.t 4) (.t 26)))⟩,
   ⟨some 5, none, (.p (.move (.c (.int .i64 0))))⟩]) .ret))) .skip)) (.seq (.seq (.reg 
  [⟨some 27, none, (.p (.move (.t 0)))⟩,
   ⟨some 28, none, (.p (.move (.t 1)))⟩,
   ⟨some 29, none, (.p (.ixs (.t 27) (.t 28)))⟩,
   ⟨some 30, none, (.e (.call (.c (.fn 165 [] [])) [(.t 29)]))⟩]) (.cond (.t 30) (.seq (.reg 
  [⟨some 31, none, (.p (.move (.t 0)))⟩,
   ⟨some 32, none, (.p (.move (.t 1)))⟩,
   ⟨some 33, none, (.e (.call (.c (.fn 166 [] [])) [(.t 31), (.t 32)]))⟩,
   ⟨some 7, none, (.p (.move (.t 33)))⟩]) (.seq (.block 0 (.seq (.reg 
  [⟨some 35, none, (.p (.move (.t 7)))⟩,
   ⟨some 36, none, (.p (.move (.t 1)))⟩,
   ⟨some 37, none, (.p (.bin .sub .int (.t 35) (.t 36)))⟩,
   ⟨some 38, none, (.p (.bin .gtr .int (.t 37) (.c (.int .i64 1))))⟩,
   ⟨some 39, none, (.p (.move (.t 38)))⟩,
   ⟨some 40, some (39, true), (.p (.move (.t 0)))⟩,
   ⟨some 41, some (39, true), (.p (.move (.t 1)))⟩,
   ⟨some 42, some (39, true), (.p (.ixs (.t 40) (.t 41)))⟩,
   ⟨some 43, some (39, true), (.p (.bin .eql .int (.t 42) (.c (.int .u8 48))))⟩,
   ⟨some 44, none, (.p (.pick (.t 39) (.t 43) (.c (.bool false))))⟩,
   ⟨some 34, none, (.p (.move (.t 44)))⟩]) (.cond (.t 34) (.seq (.reg 
  [⟨some 45, none, (.p (.build [(.int .i64 0), (.str []), (.int .i64 0)] []))⟩,
   ⟨none, none, (.e (.store 3 (.t 4) (.t 45)))⟩,
   ⟨some 5, none, (.p (.move (.c (.int .i64 1))))⟩]) .ret) (.seq (.reg 
  [⟨some 47, none, (.p (.move (.t 0)))⟩,
   ⟨some 48, none, (.p (.move (.t 1)))⟩,
   ⟨some 49, none, (.p (.move (.t 7)))⟩,
   ⟨some 50, none, (.p (.subs (.t 47) (some (.t 48)) (some (.t 49))))⟩,
   ⟨some 51, none, (.e (.call (.c (.fn 167 [] [])) [(.t 50)]))⟩,
   ⟨some 46, none, (.p (.move (.t 51)))⟩]) (.cond (.t 46) (.seq (.reg 
  [⟨some 52, none, (.p (.build [(.int .i64 0), (.str []), (.int .i64 0)] []))⟩,
   ⟨none, none, (.e (.store 3 (.t 4) (.t 52)))⟩,
   ⟨some 5, none, (.p (.move (.c (.int .i64 4))))⟩]) .ret) .skip))))) (.seq (.reg 
  [⟨some 53, none, (.p (.move (.t 0)))⟩,
   ⟨some 54, none, (.p (.move (.t 1)))⟩,
   ⟨some 55, none, (.p (.move (.t 7)))⟩,
   ⟨some 56, none, (.p (.subs (.t 53) (some (.t 54)) (some (.t 55))))⟩,
   ⟨some 57, none, (.p (.move (.t 1)))⟩,
   ⟨some 58, none, (.p (.build [(.int .i64 0), (.str []), (.int .i64 0)] [(0, 1, (.c (.int .i64 2))), (1, 1, (.t 56)), (2, 1, (.t 57))]))⟩,
   ⟨none, none, (.e (.store 3 (.t 4) (.t 58)))⟩,
   ⟨some 5, none, (.p (.move (.c (.int .i64 0))))⟩]) .ret))) .skip)) (.seq (.reg 
  [⟨some 59, none, (.p (.move (.t 0)))⟩,
   ⟨some 60, none, (.p (.move (.t 1)))⟩,
   ⟨some 61, none, (.e (.call (.c (.fn 168 [] [])) [(.t 59), (.t 60)]))⟩,
   ⟨some 8, none, (.p (.move (.t 61)))⟩]) (.seq (.seq (.reg 
  [⟨some 62, none, (.p (.move (.t 8)))⟩,
   ⟨some 63, none, (.p (.move (.t 1)))⟩,
   ⟨some 64, none, (.p (.bin .eql .int (.t 62) (.t 63)))⟩]) (.cond (.t 64) (.seq (.reg 
  [⟨some 65, none, (.p (.build [(.int .i64 0), (.str []), (.int .i64 0)] []))⟩,
   ⟨none, none, (.e (.store 3 (.t 4) (.t 65)))⟩,
   ⟨some 5, none, (.p (.move (.c (.int .i64 1))))⟩]) .ret) .skip)) (.seq (.reg 
  [⟨some 66, none, (.p (.move (.t 0)))⟩,
   ⟨some 67, none, (.p (.move (.t 1)))⟩,
   ⟨some 68, none, (.p (.move (.t 8)))⟩,
   ⟨some 69, none, (.p (.subs (.t 66) (some (.t 67)) (some (.t 68))))⟩,
   ⟨some 70, none, (.p (.move (.t 1)))⟩,
   ⟨some 71, none, (.p (.build [(.int .i64 0), (.str []), (.int .i64 0)] [(0, 1, (.c (.int .i64 3))), (1, 1, (.t 69)), (2, 1, (.t 70))]))⟩,
   ⟨none, none, (.e (.store 3 (.t 4) (.t 71)))⟩,
   ⟨some 5, none, (.p (.move (.c (.int .i64 0))))⟩]) .ret)))))) := by kernel_rfl
theorem next_call {call : Cal} {lim : Nat} (hc : CallSc lim call) (st : St) {s : List UInt8} (hs : s.length < 1000000) (hl : s.length < lim) (hl2 : 1000 ≤ lim) {n k t : Nat} (hn : n < s.length) (hk : tokP (s.drop n) = some (t, k)) :
    ∃ st', endF [.cell 4 3 true, .t 5] (execX call lim x84.body (argsT [.str s, .int .i64 (.ofNat n)] 0 .nil) st) = some (.tup [.agg [.int .i64 (.ofNat t), .str ((s.drop n).take k), .int .i64 (.ofNat n)], .int .i64 0], st') ∧ st'.next = st.next + 1 ∧ ∀ j, j < st.next → st'.heap.get j = st.heap.get j := by
  obtain ⟨c, l, hd⟩ : ∃ c l, s.drop n = c :: l := by rw [List.drop_eq_getElem_cons hn]; exact ⟨_, _, rfl⟩
  obtain ⟨hcc, _, hd'⟩ := drop_nth hd
  have hix := ix_str hcc
  have hw := wordLen_le (s.drop n)
  have hm := numeLen_le (s.drop n)
  have hg := signLen_le (s.drop n)
  rw [List.length_drop] at hw hm hg
  have kw : ∀ st, call 164 [.str s, .int .i64 (.ofNat n)] st = some (.int .i64 (.ofNat (n + wordLen (s.drop n))), st) := fun st => hc.w s n st hs hl (by omega)
  have km : ∀ st, call 166 [.str s, .int .i64 (.ofNat n)] st = some (.int .i64 (.ofNat (n + numeLen (s.drop n))), st) := fun st => hc.m s n st hs hl (by omega)
  have kg : ∀ st, call 168 [.str s, .int .i64 (.ofNat n)] st = some (.int .i64 (.ofNat (n + signLen (s.drop n))), st) := fun st => hc.g s n st hs hl2 (by omega)
  have kl := hc.l c
  have kd := hc.d c
  have hsub : ∀ k, n + k ≤ s.length → subsV s (some n) (some (n + k)) = some (.str ((s.drop n).take k)) := by
    intro k hk
    rw [subsV_ok (by omega) hk, List.drop_take, Nat.add_sub_cancel_left]
  rw [hd] at hk
  unfold tokP at hk
  dsimp only at hk
  rw [next_body]
  cases q1 : isLet c.toNat
  · rw [q1] at hk kl
    dsimp only at hk
    cases q2 : isDig c.toNat
    · rw [q2] at hk kd
      dsimp only at hk
      cases q3 : Nat.beq (signLen (c :: l)) 0
      · rw [q3] at hk
        cases hk
        rw [← hd] at q3 ⊢
        have hs1 := hsub (signLen (s.drop n)) (by omega)
        have hne : Nat.beq (n + signLen (s.drop n)) n = false := by
          rw [natBeq] at q3 ⊢
          have := of_decide_eq_false q3
          exact decide_eq_false (by omega)
        simp only [blk_ret, at_ret, ex_ret, dp_subs, subs_str, dx_alloc, dx_store, dp_tok, tokV_ok, store3, sd_none, ex_seq, ex_reg, rx_nil, rx_free, rx_held, sx_yes, sx_no, wv_bool, wv_und, nx_some, sd_some, dx_p, ok_some, dp_move, dp_lens, dp_bin, dp_ixs, dp_pick, dx_call, evXs_nil, evXs_cons, evX_t, evX_c, Tr.get_set, List.append_nil, Option.getD_some, ex_cond, ex_block, ex_skip, ex_exit, ro_some, at_norm, at_exit, blk_norm, xPick, condV, runsTo, Nat.reduceEqDiff, reduceCtorEq, if_true, if_false, bb1, bb2, bb3, bb4, Bool.or_false, Bool.or_true, Bool.false_or, Bool.true_or, args2_0, args2_1, hix, kl, kd, kg, eql_nat, hne, nat_of, hs1]
        exact ⟨_, end_cell (k := st.next) (by simp only [Tr.get_set, Nat.reduceEqDiff, reduceCtorEq, if_true, if_false]) ((get_put _ _ _ _).trans (if_pos rfl)) (by simp only [Tr.get_set, Nat.reduceEqDiff, reduceCtorEq, if_true, if_false] <;> rfl), rfl, fun j hj => by rw [get_put, if_neg (by omega), get_new, if_neg (by omega)]⟩
      · rw [q3] at hk; cases hk
    · rw [q2] at hk kd
      dsimp only at hk
      cases q3 : Nat.beq (numeLen (c :: l)) 1
      · rw [q3] at hk; cases hk
      rw [q3] at hk
      cases hk
      rw [← hd] at q3
      have q4 : numeLen (s.drop n) = 1 := by
        rw [natBeq] at q3
        exact of_decide_eq_true q3
      rw [q4] at km hm
      have hs1 := hsub 1 (by omega)
      have kt := fun st => hc.t ((s.drop n).take 1) st (by rw [List.length_take]; omega)
      have hsb := sub_nat (a := n + 1) (b := n) (by omega) (by omega)
      rw [Nat.add_sub_cancel_left] at hsb
      have hgt : decide (1 < 1) = false := rfl
      simp only [blk_ret, at_ret, ex_ret, dp_subs, subs_str, dx_alloc, dx_store, dp_tok, tokV_ok, store3, sd_none, ex_seq, ex_reg, rx_nil, rx_free, rx_held, sx_yes, sx_no, wv_bool, wv_und, nx_some, sd_some, dx_p, ok_some, dp_move, dp_lens, dp_bin, dp_ixs, dp_pick, dx_call, evXs_nil, evXs_cons, evX_t, evX_c, Tr.get_set, List.append_nil, Option.getD_some, ex_cond, ex_block, ex_skip, ex_exit, ro_some, at_norm, at_exit, blk_norm, xPick, condV, runsTo, Nat.reduceEqDiff, reduceCtorEq, if_true, if_false, bb1, bb2, bb3, bb4, Bool.or_false, Bool.or_true, Bool.false_or, Bool.true_or, args2_0, args2_1, hix, kl, kd, km, kt, hsb, gtr1, hgt, nat_of, hs1]
      exact ⟨_, end_cell (k := st.next) (by simp only [Tr.get_set, Nat.reduceEqDiff, reduceCtorEq, if_true, if_false]) ((get_put _ _ _ _).trans (if_pos rfl)) (by simp only [Tr.get_set, Nat.reduceEqDiff, reduceCtorEq, if_true, if_false] <;> rfl), rfl, fun j hj => by rw [get_put, if_neg (by omega), get_new, if_neg (by omega)]⟩
  · rw [q1] at hk kl
    dsimp only at hk
    cases q3 : Nat.ble (wordLen (c :: l)) 16
    · rw [q3] at hk; cases hk
    rw [q3] at hk
    cases hk
    rw [← hd] at q3 ⊢
    have hgt : decide (16 < wordLen (s.drop n)) = false := by
      rw [Nat.ble_eq] at q3
      exact decide_eq_false (by omega)
    have hs1 := hsub (wordLen (s.drop n)) (by omega)
    have hsb := sub_nat (a := n + wordLen (s.drop n)) (b := n) (by omega) (by omega)
    rw [Nat.add_sub_cancel_left] at hsb
    simp only [blk_ret, at_ret, ex_ret, dp_subs, subs_str, dx_alloc, dx_store, dp_tok, tokV_ok, store3, sd_none, ex_seq, ex_reg, rx_nil, rx_free, rx_held, sx_yes, sx_no, wv_bool, wv_und, nx_some, sd_some, dx_p, ok_some, dp_move, dp_lens, dp_bin, dp_ixs, dp_pick, dx_call, evXs_nil, evXs_cons, evX_t, evX_c, Tr.get_set, List.append_nil, Option.getD_some, ex_cond, ex_block, ex_skip, ex_exit, ro_some, at_norm, at_exit, blk_norm, xPick, condV, runsTo, Nat.reduceEqDiff, reduceCtorEq, if_true, if_false, bb1, bb2, bb3, bb4, Bool.or_false, Bool.or_true, Bool.false_or, Bool.true_or, args2_0, args2_1, hix, kl, kw, hsb, gtr16, hgt, nat_of, hs1]
    exact ⟨_, end_cell (k := st.next) (by simp only [Tr.get_set, Nat.reduceEqDiff, reduceCtorEq, if_true, if_false]) ((get_put _ _ _ _).trans (if_pos rfl)) (by simp only [Tr.get_set, Nat.reduceEqDiff, reduceCtorEq, if_true, if_false] <;> rfl), rfl, fun j hj => by rw [get_put, if_neg (by omega), get_new, if_neg (by omega)]⟩
theorem tokP_len {l : List UInt8} {t k : Nat} (h : tokP l = some (t, k)) : 0 < k ∧ k ≤ l.length := by
  cases l with
  | nil => cases h
  | cons c l =>
    have hw := wordLen_le (c :: l)
    have hg := signLen_le (c :: l)
    unfold tokP at h
    dsimp only at h
    cases q1 : isLet c.toNat
    · rw [q1] at h
      dsimp only at h
      cases q2 : isDig c.toNat
      · rw [q2] at h
        dsimp only at h
        cases q3 : Nat.beq (signLen (c :: l)) 0
        · rw [q3] at h
          cases h
          rw [natBeq] at q3
          have := of_decide_eq_false q3
          exact ⟨by omega, hg⟩
        · rw [q3] at h; cases h
      · rw [q2] at h
        dsimp only at h
        cases q3 : Nat.beq (numeLen (c :: l)) 1
        · rw [q3] at h; cases h
        · rw [q3] at h; cases h
          exact ⟨by omega, by simp⟩
    · rw [q1] at h
      dsimp only at h
      cases q3 : Nat.ble (wordLen (c :: l)) 16
      · rw [q3] at h; cases h
      · rw [q3] at h; cases h
        refine ⟨?_, hw⟩
        unfold wordLen
        rw [q1]
        simp
theorem blankLen_le : ∀ l : List UInt8, blankLen l ≤ l.length
  | [] => Nat.le_refl _
  | b :: l => by
    have := blankLen_le l
    unfold blankLen
    split <;> simp <;> omega
def tokA (t n : Nat) (w : List UInt8) : AV := .agg [.int .i64 (.ofNat t), .str w, .int .i64 (.ofNat n)]
/-- The tokens of a text whose blanks in front are gone; nothing where something is wrong. -/
def toksP : Nat → List UInt8 → Nat → Option (List AV)
  | 0, _, _ => none
  | f + 1, l, n => match l with
    | [] => some []
    | c :: r => match tokP (c :: r) with
      | none => none
      | some (t, k) => match toksP f (((c :: r).drop k).drop (blankLen ((c :: r).drop k))) (n + k + blankLen ((c :: r).drop k)) with
        | none => none
        | some ts => some (tokA t n ((c :: r).take k) :: ts)
/-- A list that is being filled. -/
def Out (es : List AV) (o : AV) (st : St) : Prop := (es = [] ∧ o = .nils) ∨ ∃ id, es ≠ [] ∧ o = .sl 3 es (.at id) ∧ id < st.next ∧ st.heap.get id = some .tip
theorem Out.keep {es : List AV} {o : AV} {st st' : St} (h : Out es o st) (hn : st.next ≤ st'.next) (hh : ∀ j, j < st.next → st'.heap.get j = st.heap.get j) : Out es o st' := by
  rcases h with h | ⟨id, h1, h2, h3, h4⟩
  · exact .inl h
  · exact .inr ⟨id, h1, h2, by omega, by rw [hh id h3]; exact h4⟩
theorem Out.len {es : List AV} {o : AV} {st : St} (h : Out es o st) : xLenl o = some (.int .i64 (.ofNat es.length)) := by
  rcases h with ⟨rfl, rfl⟩ | ⟨id, h1, rfl, h3, h4⟩ <;> rfl
theorem Out.app {es : List AV} {o v : AV} {st : St} (h : Out es o st) (hl : es.length < 6000) : ∃ o' st', xApp 3 32 st o (.sl 3 [v] .full) = some (o', st') ∧ Out (es ++ [v]) o' st' ∧ st'.next = st.next + 1 ∧ ∀ j, j < st.next → st.heap.get j ≠ some .tip → st'.heap.get j = st.heap.get j := by
  rcases h with ⟨rfl, rfl⟩ | ⟨id, h1, rfl, h3, h4⟩
  · refine ⟨.sl 3 [v] (.at st.next), st.new .tip, rfl, .inr ⟨st.next, by simp, rfl, by show st.next < st.next + 1; omega, by rw [get_new, if_pos rfl]⟩, rfl, fun j hj _ => by rw [get_new, if_neg (by omega)]⟩
  · refine ⟨.sl 3 (es ++ [v]) (.at st.next), (st.put id .gone).new .tip, ?_, .inr ⟨st.next, by simp, rfl, by show st.next < st.next + 1; omega, ?_⟩, rfl, fun j hj ht => ?_⟩
    · have hf : few (es.length + 1) 32 = true := by
        unfold few
        have e1 : Nat.ble (es.length + 1) 1073741824 = true := by rw [Nat.ble_eq]; omega
        rw [e1]; rfl
      show addOp 3 32 st (.sl 3 es (.at id)) [v] = _
      unfold addOp
      have e2 : (Nat.beq 3 3 && few (es.length + [v].length) 32) = true := hf
      simp only [e2, h4]
    · show ((st.put id .gone).new .tip).heap.get (st.put id .gone).next = _
      rw [get_new, if_pos rfl]
    · rw [get_new, get_put]
      rw [if_neg (by show ¬ j = st.next; omega), if_neg (by intro e; subst e; exact ht h4)]
theorem dp_ext {tm : Tr AV} (x : XO) (i : Nat) : doP tm (.ext x i) = xExt (evX tm x) i := rfl
theorem ext0 (a b : AV) : xExt (.tup [a, b]) 0 = some a := rfl
theorem ext1 (a b : AV) : xExt (.tup [a, b]) 1 = some b := rfl
theorem neq00 : binA .neq .int (.int .i64 0) (.int .i64 0) = some (.bool false) := rfl
theorem dp_lenl {tm : Tr AV} (x : XO) : doP tm (.lenl x) = xLenl (evX tm x) := rfl
theorem geq6000 {a : Nat} (h : a < 6000) : binA .geq .int (.int .i64 (.ofNat a)) (.int .i64 6000) = some (.bool false) := by
  show some (AV.bool (decide ((a : Int) ≥ 6000))) = _
  rw [decide_eq_false (by omega)]
theorem dx_load {call : Cal} {tm : Tr AV} {st : St} (size : Nat) (agg : Bool) (a : XO) : doX call st tm (.l (.load size agg a)) = okP st (xLoad st.heap size agg (evX tm a)) := rfl
theorem load_all {H : Tr Ent} {k v : Nat} {a b c : AV} (h : H.get k = some (.box v [a, b, c])) : xLoad H 3 true (.ptr k 0) = some (.agg [a, b, c]) := by
  unfold xLoad cellsAt
  simp only [h]
  rfl
theorem load_mid {H : Tr Ent} {k v : Nat} {a b c : AV} (h : H.get k = some (.box v [a, b, c])) : xLoad H 1 false (.ptr k 1) = some b := by
  unfold xLoad cellsAt
  simp only [h]
  rfl
def tokS (v : AV) : Option AV := xSl 3 (Bool.rec (motive := fun _ => Option (List AV)) none (some ([(.agg [(.int .i64 0), (.str []), (.int .i64 0)])].set 0 v)) (Nat.beq v.cells.length 3))
theorem dp_bsl {tm : Tr AV} (x : XO) : doP tm (.bslice 3 [(.agg [(.int .i64 0), (.str []), (.int .i64 0)])] [(0, x)]) = tokS (evX tm x) := rfl
theorem tokS_ok (a b c : AV) : tokS (.agg [a, b, c]) = some (.sl 3 [.agg [a, b, c]] .full) := rfl
theorem dx_app {call : Cal} {tm : Tr AV} {st : St} (size bytes : Nat) (a x : XO) : doX call st tm (.e (.app size bytes a x)) = xApp size bytes st (evX tm a) (evX tm x) := rfl
theorem dp_faddr {tm : Tr AV} (off : Nat) (x : XO) : doP tm (.faddr off x) = xFaddr off (evX tm x) := rfl
theorem fad1 (k : Nat) : xFaddr 1 (.ptr k 0) = some (.ptr k 1) := rfl
theorem add_nat {a b : Nat} (h : a + b < 1000000000) : binA .add .int (.int .i64 (.ofNat a)) (.int .i64 (.ofNat b)) = some (.int .i64 (.ofNat (a + b))) := by
  show some (AV.int .i64 (IntKind.i64.wrap ((a : Int) + b))) = _
  rw [wrap_small (by omega) (by omega)]; rfl
structure CallTk (lim : Nat) (call : Cal) : Prop extends CallSc lim call where
  x : ∀ (s : List UInt8) (n t k : Nat) st, s.length < 1000000 → s.length < lim → 1000 ≤ lim → n < s.length → tokP (s.drop n) = some (t, k) → ∃ st', call 84 [.str s, .int .i64 (.ofNat n)] st = some (.tup [tokA t n ((s.drop n).take k), .int .i64 0], st') ∧ st'.next = st.next + 1 ∧ ∀ j, j < st.next → st'.heap.get j = st.heap.get j
theorem callTk (lim d : Nat) : CallTk lim (callN envW lim (d + 3)) where
  toCallSc := callSc lim (d + 1)
  x s n t k st h1 h2 h3 h4 h5 := next_call (callSc lim d) st h1 h2 h3 h4 h5
def toksB : XC := (.seq (.seq (.reg 
  [⟨some 11, none, (.p (.move (.t 6)))⟩,
   ⟨some 12, none, (.p (.move (.t 0)))⟩,
   ⟨some 13, none, (.p (.lens (.t 12)))⟩,
   ⟨some 14, none, (.p (.bin .lss .int (.t 11) (.t 13)))⟩]) (.cond (.t 14) .skip (.exit 0))) (.seq (.block 1 (.seq (.reg 
  [⟨some 19, none, (.p (.move (.t 0)))⟩,
   ⟨some 20, none, (.p (.move (.t 6)))⟩,
   ⟨some 21, none, (.e (.call (.c (.fn 84 [] [])) [(.t 19), (.t 20)]))⟩,
   ⟨some 18, none, (.p (.move (.t 21)))⟩,
   ⟨some 22, none, (.p (.ext (.t 18) 0))⟩,
   ⟨some 23, none, (.p (.ext (.t 18) 1))⟩,
   ⟨some 7, none, (.e (.alloc [(.int .i64 0), (.str []), (.int .i64 0)]))⟩,
   ⟨none, none, (.e (.store 3 (.t 7) (.t 22)))⟩,
   ⟨some 8, none, (.p (.move (.t 23)))⟩]) (.seq (.seq (.reg 
  [⟨some 24, none, (.p (.move (.t 8)))⟩,
   ⟨some 25, none, (.p (.bin .neq .int (.t 24) (.c (.int .i64 0))))⟩]) (.cond (.t 25) (.seq (.reg 
  [⟨some 26, none, (.p (.move (.t 6)))⟩,
   ⟨some 27, none, (.p (.move (.t 8)))⟩,
   ⟨some 2, none, (.p (.move (.c .nils)))⟩,
   ⟨some 3, none, (.p (.move (.t 26)))⟩,
   ⟨some 4, none, (.p (.move (.t 27)))⟩]) .ret) .skip)) (.seq (.seq (.reg 
  [⟨some 28, none, (.p (.move (.t 5)))⟩,
   ⟨some 29, none, (.p (.lenl (.t 28)))⟩,
   ⟨some 30, none, (.p (.bin .geq .int (.t 29) (.c (.int .i64 6000))))⟩]) (.cond (.t 30) (.seq (.reg 
  [⟨some 31, none, (.p (.move (.t 6)))⟩,
   ⟨some 2, none, (.p (.move (.c .nils)))⟩,
   ⟨some 3, none, (.p (.move (.t 31)))⟩,
   ⟨some 4, none, (.p (.move (.c (.int .i64 4))))⟩]) .ret) .skip)) (.seq (.reg 
  [⟨some 32, none, (.p (.move (.t 5)))⟩,
   ⟨some 33, none, (.l (.load 3 true (.t 7)))⟩,
   ⟨some 34, none, (.p (.bslice 3 [(.agg [(.int .i64 0), (.str []), (.int .i64 0)])] [(0, (.t 33))]))⟩,
   ⟨some 35, none, (.e (.app 3 32 (.t 32) (.t 34)))⟩,
   ⟨some 5, none, (.p (.move (.t 35)))⟩]) (.reg 
  [⟨some 36, none, (.p (.move (.t 6)))⟩,
   ⟨some 37, none, (.p (.faddr 1 (.t 7)))⟩,
   ⟨some 38, none, (.l (.load 1 false (.t 37)))⟩,
   ⟨some 39, none, (.p (.lens (.t 38)))⟩,
   ⟨some 40, none, (.p (.bin .add .int (.t 36) (.t 39)))⟩,
   ⟨some 6, none, (.p (.move (.t 40)))⟩])))))) (.reg 
  [⟨some 15, none, (.p (.move (.t 0)))⟩,
   ⟨some 16, none, (.p (.move (.t 6)))⟩,
   ⟨some 17, none, (.e (.call (.c (.fn 83 [] [])) [(.t 15), (.t 16)]))⟩,
   ⟨some 6, none, (.p (.move (.t 17)))⟩])))
theorem toks_body : x39.body = .seq (.reg 
  [⟨some 2, none, (.p (.move (.c .nils)))⟩,
   ⟨some 3, none, (.p (.move (.c (.int .i64 0))))⟩,
   ⟨some 4, none, (.p (.move (.c (.int .i64 0))))⟩]) (.seq (.reg 
  [⟨some 5, none, (.p (.move (.c .nils)))⟩]) (.seq (.seq (.reg 
  [⟨some 9, none, (.p (.move (.t 0)))⟩,
   ⟨some 10, none, (.e (.call (.c (.fn 83 [] [])) [(.t 9), (.c (.int .i64 0))]))⟩,
   ⟨some 6, none, (.p (.move (.t 10)))⟩]) (.block 0 (.loop toksB))) (.seq (.reg 
  [⟨some 41, none, (.p (.move (.t 5)))⟩,
   ⟨some 2, none, (.p (.move (.t 41)))⟩,
   ⟨some 3, none, (.p (.move (.c (.int .i64 0))))⟩,
   ⟨some 4, none, (.p (.move (.c (.int .i64 0))))⟩]) .ret))) := by kernel_rfl
theorem toks_loop {call : Cal} {lim : Nat} (hc : CallTk lim call) {s : List UInt8} (hs : s.length < 1000000) (hl : s.length < lim) (hl2 : 1000 ≤ lim) (hq : ∀ b ∈ s, Nat.beq b.toNat 35 = false) : ∀ (f n m : Nat) (tm : Tr AV) (st : St) (es r : List AV) (o : AV), toksP f (s.drop n) n = some r → n ≤ s.length → f < m → (es ++ r).length < 6000 → tm.get 0 = some (.str s) → tm.get 6 = some (.int .i64 (.ofNat n)) → tm.get 5 = some o → Out es o st →
    runsTo (loopN (execX call lim toksB) m tm st) fun e tm' st' => e = .exit 0 ∧ ∃ o', tm'.get 5 = some o' ∧ Out (es ++ r) o' st' := by
  intro f
  induction f with
  | zero => intro n m tm st es r o h; cases h
  | succ f ih =>
    intro n m tm st es r o h hn hm hlen h0 h6 h5 hO
    obtain ⟨m, rfl⟩ : ∃ k, m = k + 1 := ⟨m - 1, by omega⟩
    unfold toksP at h
    split at h
    · rename_i hd
      cases h
      have hlt : decide (n < s.length) = false := decide_eq_false (by have := drop_nil hd hn; omega)
      simp only [loop_succ, toksB, ex_seq, ex_reg, rx_nil, rx_free, rx_held, sx_yes, sx_no, wv_bool, wv_und, nx_some, sd_some, dx_p, ok_some, dp_move, dp_lens, dp_bin, dp_ixs, dp_pick, dx_call, evXs_nil, evXs_cons, evX_t, evX_c, Tr.get_set, List.append_nil, Option.getD_some, ex_cond, ex_block, ex_skip, ex_exit, ro_some, at_norm, at_exit, blk_norm, xPick, condV, runsTo, Nat.reduceEqDiff, reduceCtorEq, if_true, if_false, bb1, bb2, bb3, bb4, Bool.or_false, Bool.or_true, Bool.false_or, Bool.true_or, h0, h6, lss_nat, len_str, hlt]
      exact ⟨trivial, o, h5, hO⟩
    · rename_i c l hd
      split at h
      · cases h
      rename_i t k htk
      split at h
      · cases h
      rename_i ts hts
      cases h
      obtain ⟨hcc, hlt0, _⟩ := drop_nth hd
      have hlt : decide (n < s.length) = true := decide_eq_true hlt0
      rw [← hd] at htk hts hlen ⊢
      obtain ⟨hk0, hk⟩ := tokP_len htk
      rw [List.length_drop] at hk
      have hbl := blankLen_le ((s.drop n).drop k)
      have hdd : (s.drop n).drop k = s.drop (n + k) := by rw [List.drop_drop]
      rw [hdd] at hts hbl
      rw [List.length_drop] at hbl
      obtain ⟨st1, hx, hx1, hx2⟩ := hc.x s n t k st hs hl hl2 hlt0 htk
      have hO1 : Out es o ((st1.new (.box 0 [.int .i64 0, .str [], .int .i64 0])).put st1.next (.box 1 [.int .i64 (.ofNat t), .str ((s.drop n).take k), .int .i64 (.ofNat n)])) :=
        hO.keep (by show st.next ≤ st1.next + 1; omega) fun j hj => by rw [get_put, if_neg (by omega), get_new, if_neg (by omega), hx2 j hj]
      have hes : es.length < 6000 := by rw [List.length_append] at hlen; omega
      obtain ⟨o', st2, happ, hO2, hn2, hh2⟩ := hO1.app (v := tokA t n ((s.drop n).take k)) hes
      have hbox : st2.heap.get st1.next = some (.box 1 [.int .i64 (.ofNat t), .str ((s.drop n).take k), .int .i64 (.ofNat n)]) := by
        rw [hh2 st1.next (by show st1.next < st1.next + 1; omega) (by rw [get_put, if_pos rfl]; intro e; cases e), get_put, if_pos rfl]
      have hbox1 : ((st1.new (.box 0 [.int .i64 0, .str [], .int .i64 0])).put st1.next (.box 1 [.int .i64 (.ofNat t), .str ((s.drop n).take k), .int .i64 (.ofNat n)])).heap.get st1.next = some (.box 1 [.int .i64 (.ofNat t), .str ((s.drop n).take k), .int .i64 (.ofNat n)]) := by rw [get_put, if_pos rfl]
      have hl1 := load_all hbox1
      have hl3 := load_mid hbox
      have hlenl := hO.len
      have hlen2 : xLens (.str ((s.drop n).take k)) = some (.int .i64 (.ofNat k)) := by
        show some (AV.int .i64 (.ofNat ((s.drop n).take k).length)) = _
        rw [List.length_take, List.length_drop, Nat.min_eq_left (by omega)]
      have hadd := add_nat (a := n) (b := k) (by omega)
      have hb := fun st => hc.b s (n + k) st hs hl hq (by omega)
      have hg := geq6000 hes
      unfold tokA at hx happ
      simp only [loop_succ, toksB, dx_alloc, dx_store, store3, dp_ext, ext0, ext1, neq00, dp_lenl, dx_load, dp_bsl, tokS_ok, dx_app, dp_faddr, fad1, sd_none, ex_seq, ex_reg, rx_nil, rx_free, rx_held, sx_yes, sx_no, wv_bool, wv_und, nx_some, sd_some, dx_p, ok_some, dp_move, dp_lens, dp_bin, dp_ixs, dp_pick, dx_call, evXs_nil, evXs_cons, evX_t, evX_c, Tr.get_set, List.append_nil, Option.getD_some, ex_cond, ex_block, ex_skip, ex_exit, ro_some, at_norm, at_exit, blk_norm, xPick, condV, runsTo, Nat.reduceEqDiff, reduceCtorEq, if_true, if_false, bb1, bb2, bb3, bb4, Bool.or_false, Bool.or_true, Bool.false_or, Bool.true_or, h0, h5, h6, lss_nat, len_str, hlt, hx, hlenl, hg, hl1, happ, hl3, hlen2, hadd, hb]
      rw [show es ++ tokA t n ((s.drop n).take k) :: ts = (es ++ [tokA t n ((s.drop n).take k)]) ++ ts by simp]
      refine ih (n + k + blankLen (s.drop (n + k))) m _ st2 (es ++ [tokA t n ((s.drop n).take k)]) ts o' (by rw [List.drop_drop] at hts; exact hts) (by omega) (by omega) (by simpa using hlen) ?_ ?_ ?_ hO2
      all_goals simp only [Tr.get_set, h0, Nat.reduceEqDiff, reduceCtorEq, if_true, if_false]
def scanP (s : List UInt8) : Option (List AV) := match List.all s fun b => !(Nat.beq b.toNat 35) with
  | true => match Nat.ble s.length 16384 with
    | true => match toksP (s.length + 1) (s.drop (blankLen s)) (blankLen s) with
      | some r => match Nat.blt r.length 6000 with
        | true => some r
        | false => none
      | none => none
    | false => none
  | false => none
def outA (r : List AV) : AV := match r with
  | [] => .nils
  | a :: l => .sl 3 (a :: l) .dead
theorem end_t3 {tm : Tr AV} {st : St} (a b c : Nat) {x y z : AV} (ha : tm.get a = some x) (hb : tm.get b = some y) (hc : tm.get c = some z) : endF [.t a, .t b, .t c] (.ok .ret tm st) = some (.tup [x, y, z], st) := by
  show some (AV.tup [evX tm (.t a), evX tm (.t b), evX tm (.t c)], st) = _
  rw [evX_t, evX_t, evX_t, ha, hb, hc]; rfl
theorem toks_call {call : Cal} {lim : Nat} (hc : CallTk lim call) (st : St) {s : List UInt8} {r : List AV} (hl : 20000 ≤ lim) (h : scanP s = some r) :
    ∃ o st', endF [.t 2, .t 3, .t 4] (execX call lim x39.body (argsT [.str s] 0 .nil) st) = some (.tup [o, .int .i64 0, .int .i64 0], st') ∧ Out r o st' := by
  unfold scanP at h
  split at h <;> try cases h
  rename_i hq
  split at h <;> try cases h
  rename_i hle
  split at h <;> try cases h
  rename_i r' hr
  split at h <;> try cases h
  rename_i hlt
  rw [Nat.ble_eq] at hle
  have hlt : r.length < 6000 := by rw [Nat.blt_eq] at hlt; exact hlt
  have hq : ∀ b ∈ s, Nat.beq b.toNat 35 = false := by
    intro b hb
    have := List.all_eq_true.1 hq b hb
    simpa using this
  have hb0 := fun st => hc.b s 0 st (by omega) (by omega) hq (by omega)
  simp only [List.drop_zero, Nat.zero_add] at hb0
  have hb1 := blankLen_le s
  have h0 : (argsT [.str s] 0 .nil).get 0 = some (.str s) := rfl
  rw [toks_body]
  have e0 : (AV.int .i64 0) = .int .i64 (.ofNat 0) := rfl
  have tail : ∀ tm : Tr AV, tm.get 0 = some (.str s) → tm.get 6 = some (.int .i64 (.ofNat (blankLen s))) → tm.get 5 = some .nils → ∃ o st', endF [.t 2, .t 3, .t 4] (R.andThen (R.block 0 (loopN (execX call lim toksB) lim tm st)) (execX call lim (.seq (.reg 
  [⟨some 41, none, (.p (.move (.t 5)))⟩,
   ⟨some 2, none, (.p (.move (.t 41)))⟩,
   ⟨some 3, none, (.p (.move (.c (.int .i64 0))))⟩,
   ⟨some 4, none, (.p (.move (.c (.int .i64 0))))⟩]) .ret))) = some (.tup [o, .int .i64 0, .int .i64 0], st') ∧ Out r o st' := by
    intro tm g1 g2 g3
    obtain ⟨e, tm', st', h1, rfl, o, h2, h3⟩ := runs_elim (toks_loop hc (by omega) (by omega) (by omega) hq (s.length + 1) (blankLen s) lim tm st [] r .nils hr hb1 (by omega) (by simpa using hlt) g1 g2 g3 (.inl ⟨rfl, rfl⟩))
    rw [h1]
    simp only [blk_exit, ex_seq, ex_reg, rx_nil, rx_free, rx_held, sx_yes, sx_no, wv_bool, wv_und, nx_some, sd_some, dx_p, ok_some, dp_move, dp_lens, dp_bin, dp_ixs, dp_pick, dx_call, evXs_nil, evXs_cons, evX_t, evX_c, Tr.get_set, List.append_nil, Option.getD_some, ex_cond, ex_block, ex_skip, ex_exit, ro_some, at_norm, at_exit, blk_norm, xPick, condV, runsTo, Nat.reduceEqDiff, reduceCtorEq, if_true, if_false, bb1, bb2, bb3, bb4, Bool.or_false, Bool.or_true, Bool.false_or, Bool.true_or, ex_ret]
    refine ⟨o, st', end_t3 2 3 4 ?_ ?_ ?_, by simpa using h3⟩
    all_goals simp only [Tr.get_set, h2, Option.getD_some, Nat.reduceEqDiff, reduceCtorEq, if_true, if_false]
  simp only [ex_seq, ex_reg, rx_nil, rx_free, rx_held, sx_yes, sx_no, wv_bool, wv_und, nx_some, sd_some, dx_p, ok_some, dp_move, dp_lens, dp_bin, dp_ixs, dp_pick, dx_call, evXs_nil, evXs_cons, evX_t, evX_c, Tr.get_set, List.append_nil, Option.getD_some, ex_cond, ex_block, ex_skip, ex_exit, ro_some, at_norm, at_exit, blk_norm, xPick, condV, runsTo, Nat.reduceEqDiff, reduceCtorEq, if_true, if_false, bb1, bb2, bb3, bb4, Bool.or_false, Bool.or_true, Bool.false_or, Bool.true_or, ex_loop, h0, e0, hb0]
  exact tail _ (by simp only [Tr.get_set, h0, Nat.reduceEqDiff, reduceCtorEq, if_true, if_false]) (by simp only [Tr.get_set, Nat.reduceEqDiff, reduceCtorEq, if_true, if_false]) (by simp only [Tr.get_set, Nat.reduceEqDiff, reduceCtorEq, if_true, if_false])
theorem toksP_dead : ∀ (f : Nat) (l : List UInt8) (n : Nat) (r : List AV), toksP f l n = some r → AV.deadL r = some r := by
  intro f
  induction f with
  | zero => intro l n r h; cases h
  | succ f ih =>
    intro l n r h
    unfold toksP at h
    split at h
    · cases h; rfl
    · split at h
      · cases h
      split at h
      · cases h
      rename_i ts hts
      cases h
      have := ih _ _ _ hts
      simp only [AV.deadL, tokA, AV.dead, this]
theorem Out.dead {r : List AV} {o : AV} {st : St} (h : Out r o st) (hd : AV.deadL r = some r) : AV.dead o = some (outA r) := by
  rcases h with ⟨rfl, rfl⟩ | ⟨id, h1, rfl, _, _⟩
  · rfl
  · cases r with
    | nil => exact absurd rfl h1
    | cons a l =>
      unfold AV.dead
      simp only [hd]
      rfl
theorem ex30 (a b c : AV) : xExt (.tup [a, b, c]) 0 = some a := rfl
theorem ex31 (a b c : AV) : xExt (.tup [a, b, c]) 1 = some b := rfl
theorem ex32 (a b c : AV) : xExt (.tup [a, b, c]) 2 = some c := rfl
theorem gtr16384 {a : Nat} (h : a ≤ 16384) : binA .gtr .int (.int .i64 (.ofNat a)) (.int .i64 16384) = some (.bool false) := by
  show some (AV.bool (decide ((a : Int) > 16384))) = _
  rw [decide_eq_false (by omega)]
theorem scan_body : x18.body = (.seq (.reg 
  [⟨some 2, none, (.p (.move (.c .nils)))⟩,
   ⟨some 3, none, (.p (.move (.c (.int .i64 0))))⟩,
   ⟨some 4, none, (.p (.move (.c (.int .i64 0))))⟩]) (.seq (.seq (.reg 
  [⟨some 8, none, (.p (.move (.t 0)))⟩,
   ⟨some 9, none, (.p (.lens (.t 8)))⟩,
   ⟨some 10, none, (.p (.bin .gtr .int (.t 9) (.c (.int .i64 16384))))⟩]) (.cond (.t 10) (.seq (.reg 
  [⟨some 2, none, (.p (.move (.c .nils)))⟩,
   ⟨some 3, none, (.p (.move (.c (.int .i64 0))))⟩,
   ⟨some 4, none, (.p (.move (.c (.int .i64 4))))⟩]) .ret) .skip)) (.seq (.reg 
  [⟨some 12, none, (.p (.move (.t 0)))⟩,
   ⟨some 13, none, (.e (.call (.c (.fn 39 [] [])) [(.t 12)]))⟩,
   ⟨some 11, none, (.p (.move (.t 13)))⟩,
   ⟨some 14, none, (.p (.ext (.t 11) 0))⟩,
   ⟨some 15, none, (.p (.ext (.t 11) 1))⟩,
   ⟨some 16, none, (.p (.ext (.t 11) 2))⟩,
   ⟨some 5, none, (.p (.move (.t 14)))⟩,
   ⟨some 6, none, (.p (.move (.t 15)))⟩,
   ⟨some 7, none, (.p (.move (.t 16)))⟩]) (.seq (.seq (.reg 
  [⟨some 17, none, (.p (.move (.t 7)))⟩,
   ⟨some 18, none, (.p (.bin .neq .int (.t 17) (.c (.int .i64 0))))⟩]) (.cond (.t 18) (.seq (.reg 
  [⟨some 19, none, (.p (.move (.t 6)))⟩,
   ⟨some 20, none, (.p (.move (.t 7)))⟩,
   ⟨some 2, none, (.p (.move (.c .nils)))⟩,
   ⟨some 3, none, (.p (.move (.t 19)))⟩,
   ⟨some 4, none, (.p (.move (.t 20)))⟩]) .ret) .skip)) (.seq (.reg 
  [⟨some 21, none, (.p (.move (.t 5)))⟩,
   ⟨some 2, none, (.p (.move (.t 21)))⟩,
   ⟨some 3, none, (.p (.move (.c (.int .i64 0))))⟩,
   ⟨some 4, none, (.p (.move (.c (.int .i64 0))))⟩]) .ret))))) := by kernel_rfl
theorem scan_call (lim d : Nat) (st : St) {s : List UInt8} {r : List AV} (hl : 20000 ≤ lim) (h : scanP s = some r) :
    ∃ o st', callN envW lim (d + 5) 18 [.str s] st = some (.tup [o, .int .i64 0, .int .i64 0], st') ∧ Out r o st' := by
  obtain ⟨o, st', h1, h2⟩ := toks_call (callTk lim d) st hl h
  have hk : callN envW lim (d + 4) 39 [.str s] st = some (.tup [o, .int .i64 0, .int .i64 0], st') := h1
  have hle : s.length ≤ 16384 := by
    unfold scanP at h
    split at h <;> try cases h
    split at h <;> try cases h
    rename_i hle
    rw [Nat.ble_eq] at hle
    exact hle
  have h0 : (argsT [.str s] 0 .nil).get 0 = some (.str s) := rfl
  have hg := gtr16384 hle
  show ∃ o st', endF [.t 2, .t 3, .t 4] (execX (callN envW lim (d + 4)) lim x18.body (argsT [.str s] 0 .nil) st) = _ ∧ _
  rw [scan_body]
  simp only [ex_ret, dp_ext, ex30, ex31, ex32, neq00, ex_seq, ex_reg, rx_nil, rx_free, rx_held, sx_yes, sx_no, wv_bool, wv_und, nx_some, sd_some, dx_p, ok_some, dp_move, dp_lens, dp_bin, dp_ixs, dp_pick, dx_call, evXs_nil, evXs_cons, evX_t, evX_c, Tr.get_set, List.append_nil, Option.getD_some, ex_cond, ex_block, ex_skip, ex_exit, ro_some, at_norm, at_exit, blk_norm, xPick, condV, runsTo, Nat.reduceEqDiff, reduceCtorEq, if_true, if_false, bb1, bb2, bb3, bb4, Bool.or_false, Bool.or_true, Bool.false_or, Bool.true_or, h0, len_str, hg, hk]
  refine ⟨o, st', end_t3 2 3 4 ?_ ?_ ?_, h2⟩
  all_goals simp only [Tr.get_set, Nat.reduceEqDiff, reduceCtorEq, if_true, if_false]
def pScan : List AV → Option AV
  | [.str s] => match scanP s with
    | some r => some (.tup [outA r, .int .i64 0, .int .i64 0])
    | none => none
  | _ => none
theorem pScan_ok (base : Nat) : PrimOk Tryz.prog base 18 pScan := by
  refine ⟨⟨Tryz.f18, Tryz.func18, by kernel_rfl, by kernel_rfl⟩, fun args r h st w g vs hA hI => ?_⟩
  unfold pScan at h
  split at h <;> try cases h
  rename_i s
  split at h <;> cases h
  rename_i ts hts
  refine apart_ok (fun base => callW_ok 20000 5 base) (r := .tup [outA ts, .int .i64 0, .int .i64 0]) ?_ hA hI
  obtain ⟨o, st', h1, h2⟩ := scan_call 20000 0 ⟨.nil, 0⟩ (Nat.le_refl _) hts
  have hd : AV.deadL ts = some ts := by
    unfold scanP at hts
    split at hts <;> try cases hts
    split at hts <;> try cases hts
    split at hts <;> try cases hts
    rename_i hr
    split at hts <;> cases hts
    exact toksP_dead _ _ _ _ hr
  have e := h2.dead hd
  unfold apart
  have hs : AV.deadL [.str s] = some [.str s] := rfl
  rw [hs]
  simp only [h1]
  simp only [AV.dead, AV.deadL, e]
def prX (f : Nat) : Option (List AV → Option AV) := match Nat.beq f 18 with
  | true => some pScan
  | false => prW f
def envX : Env := ⟨fxT, prX⟩
theorem envX_ok (base : Nat) : EnvOk Tryz.prog tyT.get base envX := by
  refine ⟨fns_ok, fun f p h => ?_⟩
  have h : prX f = some p := h
  unfold prX at h
  split at h
  · rename_i hf
    rw [natBeq] at hf
    have hf := of_decide_eq_true hf
    subst hf
    injection h with h; subst h
    exact pScan_ok base
  · exact (envW_ok base).prim f p h
theorem callX_ok (lim d base : Nat) : CallOk Tryz.prog base (callN envX lim d) :=
  callN_ok tab (envX_ok base) (fun _ hc hv => regds_ok mixed tab hc hv) lim d
end
end Go.Proofs.YthlkmffimhnehaaGreat
namespace Go.Proofs.YthlkmffimhnehaaGreat
open Go Go.Ev
noncomputable section
def libT (a : UInt8) : List UInt8 := [108, 105, 98, 114, 97, 114, 121, 32, 103, 101, 111, 32, 114, 101, 108, 101, 97, 115, 101, 32, 52, 59, 32, 115, 105, 110, 99, 101, 32, a, 32, 112, 117, 98, 108, 105, 99, 32, 102, 117, 110, 99, 32, 110, 101, 119, 40, 41, 58, 32, 73, 110, 116, 32, 61, 32, 49, 59]
def clT0 (a c : UInt8) : List UInt8 := [99, 108, 105, 101, 110, 116, 32, 97, 112, 112, 59, 32, 105, 109, 112, 111, 114, 116, 32, 103, 101, 111, 32, a, 59, 32, 102, 117, 110, 99, 32, 109, 97, 105, 110, 40, 41, 58, 32, 73, 110, 116, 32, 61, 32, 105, 102, 32, 97, 118, 97, 105, 108, 97, 98, 108, 101, 40, 103, 101, 111, 44, 32, c, 41, 32, 116, 104, 101, 110, 32, 103, 101, 111, 46, 110, 101, 119, 40, 41, 32, 101, 108, 115, 101, 32, 48, 59]
def clT1 (a c : UInt8) : List UInt8 := [99, 108, 105, 101, 110, 116, 32, 97, 112, 112, 59, 32, 105, 109, 112, 111, 114, 116, 32, 103, 101, 111, 32, a, 59, 32, 102, 117, 110, 99, 32, 109, 97, 105, 110, 40, 41, 58, 32, 73, 110, 116, 32, 61, 32, 105, 102, 32, 97, 118, 97, 105, 108, 97, 98, 108, 101, 40, 103, 101, 111, 44, 32, c, 41, 32, 116, 104, 101, 110, 32, 48, 32, 101, 108, 115, 101, 32, 103, 101, 111, 46, 110, 101, 119, 40, 41, 59]
def clT2 (a c : UInt8) : List UInt8 := [99, 108, 105, 101, 110, 116, 32, 97, 112, 112, 59, 32, 105, 109, 112, 111, 114, 116, 32, 103, 101, 111, 32, a, 59, 32, 102, 117, 110, 99, 32, 109, 97, 105, 110, 40, 41, 58, 32, 73, 110, 116, 32, 61, 32, 40, 105, 102, 32, 97, 118, 97, 105, 108, 97, 98, 108, 101, 40, 103, 101, 111, 44, 32, c, 41, 32, 116, 104, 101, 110, 32, 48, 32, 101, 108, 115, 101, 32, 49, 41, 32, 43, 32, 103, 101, 111, 46, 110, 101, 119, 40, 41, 59]
def clT3 (a c : UInt8) : List UInt8 := [99, 108, 105, 101, 110, 116, 32, 97, 112, 112, 59, 32, 105, 109, 112, 111, 114, 116, 32, 103, 101, 111, 32, a, 59, 32, 102, 117, 110, 99, 32, 109, 97, 105, 110, 40, 41, 58, 32, 73, 110, 116, 32, 61, 32, 105, 102, 32, 97, 118, 97, 105, 108, 97, 98, 108, 101, 40, 103, 101, 111, 44, 32, c, 41, 32, 116, 104, 101, 110, 32, 40, 108, 101, 116, 32, 120, 32, 61, 32, 49, 32, 105, 110, 32, 120, 32, 43, 32, 103, 101, 111, 46, 110, 101, 119, 40, 41, 41, 32, 101, 108, 115, 101, 32, 48, 59]
def clT4 (a _c : UInt8) : List UInt8 := [99, 108, 105, 101, 110, 116, 32, 97, 112, 112, 59, 32, 105, 109, 112, 111, 114, 116, 32, 103, 101, 111, 32, a, 59, 32, 102, 117, 110, 99, 32, 109, 97, 105, 110, 40, 41, 58, 32, 73, 110, 116, 32, 61, 32, 105, 102, 32, 49, 32, 60, 32, 50, 32, 116, 104, 101, 110, 32, 103, 101, 111, 46, 110, 101, 119, 40, 41, 32, 101, 108, 115, 101, 32, 48, 59]
end
end Go.Proofs.YthlkmffimhnehaaGreat
namespace Go.Proofs.YthlkmffimhnehaaGreat
open Go Go.Ev Go.RowKit
set_option maxRecDepth 100000
noncomputable section
theorem seq_norm {call : Cal} {lim : Nat} {a b : XC} {tm tm' : Tr AV} {st st' : St} (h : execX call lim a tm st = .ok .norm tm' st') : execX call lim (.seq a b) tm st = execX call lim b tm' st' := by
  show (execX call lim a tm st).andThen (execX call lim b) = _
  rw [h]; rfl
def hd : XC → XC | .seq a _ => a | c => c
def tl : XC → XC | .seq _ b => b | c => c
/-- The remainder, from what the machine's division leaves. -/
def md (n q : Int) : Int := match decide (q < 0) with
  | true => IntKind.i64.wrap (q + n)
  | false => q
def T21 (p n : Int) : Tr AV := (((((((Tr.set (argsT [.int .i64 p, .int .i64 n] 0 .nil) 4 (.int .i64 0)).set 5 (.int .i64 n)).set 6 (.bool false)).set 7 (.int .i64 p)).set 8 (.int .i64 n)).set 9 (.int .i64 (p.tmod n))).set 0 (.int .i64 (p.tmod n)))
def T21q (p n q : Int) : Tr AV := (((((((Tr.set (argsT [.int .i64 p, .int .i64 n] 0 .nil) 4 (.int .i64 0)).set 5 (.int .i64 n)).set 6 (.bool false)).set 7 (.int .i64 p)).set 8 (.int .i64 n)).set 9 (.int .i64 q)).set 0 (.int .i64 q))
theorem cut1 {call : Cal} {lim : Nat} {x : XC} {tm tm' : Tr AV} {st st' : St} (e : x = .seq (hd x) (tl x)) (h : execX call lim (hd x) tm st = .ok .norm tm' st') : execX call lim x tm st = execX call lim (tl x) tm' st' := by
  conv => lhs; rw [e]
  exact seq_norm h
theorem mod_head (n : Int) (h : n = 5 ∨ n = 7) (call : Cal) (p : Int) (st : St) : execX call 1000 x21.body (argsT [.int .i64 p, .int .i64 n] 0 .nil) st = execX call 1000 (tl (tl (tl x21.body))) (T21 p n) st := by
  have e0 : x21.body = .seq (hd x21.body) (tl x21.body) := by kernel_rfl
  have e1 : tl x21.body = .seq (hd (tl x21.body)) (tl (tl x21.body)) := by kernel_rfl
  have e2 : tl (tl x21.body) = .seq (hd (tl (tl x21.body))) (tl (tl (tl x21.body))) := by kernel_rfl
  rcases h with h | h <;> subst h
  · refine (cut1 e0 (tm' := (argsT [.int .i64 p, .int .i64 5] 0 .nil).set 4 (.int .i64 0)) (st' := st) (by kernel_rfl)).trans ?_
    refine (cut1 e1 (tm' := (((argsT [.int .i64 p, .int .i64 5] 0 .nil).set 4 (.int .i64 0)).set 5 (.int .i64 5)).set 6 (.bool false)) (st' := st) (by kernel_rfl)).trans ?_
    exact cut1 e2 (tm' := T21 p 5) (by kernel_rfl)
  · refine (cut1 e0 (tm' := (argsT [.int .i64 p, .int .i64 7] 0 .nil).set 4 (.int .i64 0)) (st' := st) (by kernel_rfl)).trans ?_
    refine (cut1 e1 (tm' := (((argsT [.int .i64 p, .int .i64 7] 0 .nil).set 4 (.int .i64 0)).set 5 (.int .i64 7)).set 6 (.bool false)) (st' := st) (by kernel_rfl)).trans ?_
    exact cut1 e2 (tm' := T21 p 7) (by kernel_rfl)
def fin21 (call : Cal) (n p q : Int) (st : St) : Option (AV × St) := endF x21.res (execX call 1000 (tl (tl (tl x21.body))) (T21q p n q) st)
theorem mod_run5 (call : Cal) (p q : Int) (st : St) (h : -5 < q ∧ q < 5) : fin21 call 5 p q st = some (.int .i64 (md 5 q), st) := by
  have : q = -4 ∨ q = -3 ∨ q = -2 ∨ q = -1 ∨ q = 0 ∨ q = 1 ∨ q = 2 ∨ q = 3 ∨ q = 4 := by omega
  rcases this with h | h | h | h | h | h | h | h | h <;> subst h <;> (show fin21 _ _ _ _ _ = _; kernel_rfl)
theorem mod_run7 (call : Cal) (p q : Int) (st : St) (h : -7 < q ∧ q < 7) : fin21 call 7 p q st = some (.int .i64 (md 7 q), st) := by
  have : q = -6 ∨ q = -5 ∨ q = -4 ∨ q = -3 ∨ q = -2 ∨ q = -1 ∨ q = 0 ∨ q = 1 ∨ q = 2 ∨ q = 3 ∨ q = 4 ∨ q = 5 ∨ q = 6 := by omega
  rcases this with h | h | h | h | h | h | h | h | h | h | h | h | h <;> subst h <;> (show fin21 _ _ _ _ _ = _; kernel_rfl)
theorem tmod_lt (p : Int) (n : Int) (hn : 0 < n) : -n < p.tmod n ∧ p.tmod n < n := by
  have h1 := Int.tmod_lt_of_pos p hn
  have h2 := Int.lt_tmod_of_pos p hn
  exact ⟨by omega, h1⟩
theorem call21 (n : Int) (h : n = 5 ∨ n = 7) (p : Int) (st : St) : callN envY 1000 2 21 [.int .i64 p, .int .i64 n] st = some (.int .i64 (md n (p.tmod n)), st) := by
  rcases h with h | h <;> subst h
  · show endF x21.res (execX (callN envY 1000 1) 1000 x21.body (argsT [.int .i64 p, .int .i64 5] 0 .nil) st) = _
    rw [mod_head 5 (.inl rfl)]
    exact mod_run5 _ p _ st (tmod_lt p 5 (by decide))
  · show endF x21.res (execX (callN envY 1000 1) 1000 x21.body (argsT [.int .i64 p, .int .i64 7] 0 .nil) st) = _
    rw [mod_head 7 (.inr rfl)]
    exact mod_run7 _ p _ st (tmod_lt p 7 (by decide))
def pMod : List AV → Option AV
  | [.int .i64 p, .int .i64 n] => match beqInt n 5 || beqInt n 7 with
    | true => some (.int .i64 (md n (p.tmod n)))
    | false => none
  | _ => none
theorem pMod_ok (base : Nat) : PrimOk Tryz.prog base 21 pMod := by
  refine ⟨⟨Tryz.f21, Tryz.func21, by kernel_rfl, by kernel_rfl⟩, fun args r h st w g vs hA hI => ?_⟩
  unfold pMod at h
  split at h <;> try cases h
  rename_i p n
  split at h <;> cases h
  rename_i hb
  have hn : n = 5 ∨ n = 7 := by
    rw [beqInt_eq, beqInt_eq] at hb
    simpa using hb
  exact (callY_ok 1000 2 base 21 _ st _ st (call21 n hn p st)).2 w g vs hA hI
/-- Answers known beforehand: of the remainder, of the modules of some texts, and of the sanity check. -/
def prG (l m : List (List AV × AV)) (f : Nat) : Option (List AV → Option AV) := match Nat.beq f 21 with
  | true => some pMod
  | false => match Nat.beq f 40 with
    | true => some (memo l)
    | false => match Nat.beq f 24 with
      | true => some (memo m)
      | false => prX f
def envG (l m : List (List AV × AV)) : Env := ⟨fxT, prG l m⟩
theorem envG_ok {lim d lim' d' : Nat} {l m : List (List AV × AV)} (hl : ∀ p ∈ l, Entry (callN envX lim d) 40 p) (hm : ∀ p ∈ m, Entry (callN envX lim' d') 24 p) (base : Nat) : EnvOk Tryz.prog tyT.get base (envG l m) := by
  refine ⟨fns_ok, fun f p h => ?_⟩
  have h : prG l m f = some p := h
  unfold prG at h
  split at h
  · rename_i hf
    rw [natBeq] at hf
    have hf := of_decide_eq_true hf
    subst hf
    injection h with h; subst h
    exact pMod_ok base
  · split at h
    · rename_i hf
      rw [natBeq] at hf
      have hf := of_decide_eq_true hf
      subst hf
      injection h with h; subst h
      exact memo_ok (fun base => callX_ok lim d base) hl ⟨Tryz.f40, Tryz.func40, by kernel_rfl, by kernel_rfl⟩ base
    · split at h
      · rename_i hf
        rw [natBeq] at hf
        have hf := of_decide_eq_true hf
        subst hf
        injection h with h; subst h
        exact memo_ok (fun base => callX_ok lim' d' base) hm ⟨Tryz.f24, Tryz.func24, by kernel_rfl, by kernel_rfl⟩ base
      · exact (envX_ok base).prim f p h
/-- A run that answers true with these answers known is a call that answers true. -/
theorem yesG_calls {lim d lim' d' lim2 d2 f : Nat} {l m : List (List AV × AV)} (hl : ∀ p ∈ l, Entry (callN envX lim d) 40 p) (hm : ∀ p ∈ m, Entry (callN envX lim' d') 24 p) {args : List AV} (h : yes (callN (envG l m) lim2 d2 f args ⟨.nil, 0⟩) = true) {w : World} {vs : List Value} (hA : RL w ⟨fun _ => none, fun _ => none, fun _ _ => False⟩ args vs) :
    Calls Tryz.prog f vs.toArray w fun e w' => e = .returned (.bool true) ∧ RowKit.Below w.heap.size w w' := by
  unfold yes at h
  split at h
  · rename_i st hr
    refine (calls_of_run mixed tab (envG_ok hl hm) lim2 d2 hr hA).mono fun e w' ⟨v, g', h1, h2, h3⟩ => ?_
    rw [rep_bool h2] at h1
    exact ⟨h1, h3⟩
  · cases h
end
end Go.Proofs.YthlkmffimhnehaaGreat
namespace Go.Proofs.YthlkmffimhnehaaGreat
open Go Go.Ev Go.RowKit
set_option maxRecDepth 100000
noncomputable section
def upA (q : Int) : Int := IntKind.i64.wrap (1 + IntKind.i64.wrap q)
def A4 (h n g p : Int) : Tr AV := argsT [.int .u8 h, .int .u8 n, .int .u8 g, .int .i64 p] 0 .nil
def T4 (h n g p a b c : Int) : Tr AV := ((((((((((((((((A4 h n g p).set 8 (.bool false)).set 19 (.int .u8 h)).set 20 (.int .u8 a)).set 21 (.int .i64 (IntKind.i64.wrap a))).set 22 (.int .i64 (upA a))).set 23 (.int .u8 n)).set 24 (.int .u8 b)).set 25 (.int .i64 (IntKind.i64.wrap b))).set 26 (.int .i64 (upA b))).set 27 (.int .u8 g)).set 28 (.int .u8 c)).set 29 (.int .i64 (IntKind.i64.wrap c))).set 30 (.int .i64 (upA c))).set 9 (.int .i64 (upA a))).set 10 (.int .i64 (upA b))).set 11 (.int .i64 (upA c))
def b41 : XC := tl x4.body
def b42 : XC := tl b41
def b43 : XC := tl b42
def b44 : XC := tl b43
def b45 : XC := tl b44
theorem e40 : x4.body = .seq (hd x4.body) b41 := by kernel_rfl
theorem e41 : b41 = .seq (hd b41) b42 := by kernel_rfl
theorem e42 : b42 = .seq (hd b42) b43 := by kernel_rfl
theorem e43 : b43 = .seq (hd b43) b44 := by kernel_rfl
theorem e44 : b44 = .seq (hd b44) b45 := by kernel_rfl
theorem f4_head (call : Cal) (h n g p : Int) (st : St) : execX call 100000 x4.body (A4 h n g p) st = execX call 100000 b42 (T4 h n g p (h.tmod 4) (n.tmod 4) (g.tmod 4)) st := by
  refine (cut1 e40 (tm' := (A4 h n g p).set 8 (.bool false)) (st' := st) (by kernel_rfl)).trans ?_
  exact cut1 e41 (tm' := T4 h n g p (h.tmod 4) (n.tmod 4) (g.tmod 4)) (by kernel_rfl)
def getTm : R → Tr AV
  | .ok _ tm _ => tm
  | .fail => .nil
/-- What the texts are made with: the digits, whatever else is known. -/
def call4 (l m : List (List AV × AV)) : Cal := callN (envG l m) 100000 200
def M2 (l m : List (List AV × AV)) (h n g p a b c : Int) : Tr AV := getTm (execX (call4 l m) 100000 (hd b42) (T4 h n g p a b c) ⟨.nil, 0⟩)
def M3 (l m : List (List AV × AV)) (h n g p a b c : Int) : Tr AV := getTm (execX (call4 l m) 100000 (hd b43) (M2 l m h n g p a b c) ⟨.nil, 0⟩)
def M4 (l m : List (List AV × AV)) (h n g p a b c k : Int) : Tr AV := (((((M3 l m h n g p a b c).set 61 (.int .i64 p)).set 62 (evX (M3 l m h n g p a b c) (.t 13))).set 63 (.int .i64 5)).set 64 (.int .i64 k)).set 14 (.int .i64 k)
theorem f4_mid_of (l m : List (List AV × AV)) (h n g p a b c : Int)
    (h2 : execX (call4 l m) 100000 (hd b42) (T4 h n g p a b c) ⟨.nil, 0⟩ = .ok .norm (M2 l m h n g p a b c) ⟨.nil, 0⟩)
    (h3 : execX (call4 l m) 100000 (hd b43) (M2 l m h n g p a b c) ⟨.nil, 0⟩ = .ok .norm (M3 l m h n g p a b c) ⟨.nil, 0⟩)
    (h4 : execX (call4 l m) 100000 (hd b44) (M3 l m h n g p a b c) ⟨.nil, 0⟩ = .ok .norm (M4 l m h n g p a b c (md 5 (p.tmod 5))) ⟨.nil, 0⟩) :
    execX (call4 l m) 100000 b42 (T4 h n g p a b c) ⟨.nil, 0⟩ = execX (call4 l m) 100000 b45 (M4 l m h n g p a b c (md 5 (p.tmod 5))) ⟨.nil, 0⟩ :=
  (cut1 e42 h2).trans ((cut1 e43 h3).trans (cut1 e44 h4))
theorem f4_mid (l m : List (List AV × AV)) (h n g p a b c : Int) (hc : c = 0 ∨ c = 1 ∨ c = 2 ∨ c = 3) : execX (call4 l m) 100000 b42 (T4 h n g p a b c) ⟨.nil, 0⟩ = execX (call4 l m) 100000 b45 (M4 l m h n g p a b c (md 5 (p.tmod 5))) ⟨.nil, 0⟩ := by
  rcases hc with hc | hc | hc | hc <;> subst hc
  · exact f4_mid_of l m h n g p a b 0 (by kernel_rfl) (by kernel_rfl) (by kernel_rfl)
  · exact f4_mid_of l m h n g p a b 1 (by kernel_rfl) (by kernel_rfl) (by kernel_rfl)
  · exact f4_mid_of l m h n g p a b 2 (by kernel_rfl) (by kernel_rfl) (by kernel_rfl)
  · exact f4_mid_of l m h n g p a b 3 (by kernel_rfl) (by kernel_rfl) (by kernel_rfl)
/-- What is left when all is reduced. -/
def Fin4 (l m : List (List AV × AV)) (a b c k : Int) : Prop := ∀ h n g p : Int, yes (endF x4.res (execX (call4 l m) 100000 b45 (M4 l m h n g p a b c k) ⟨.nil, 0⟩)) = true
theorem md5 (p : Int) : md 5 (p.tmod 5) = 0 ∨ md 5 (p.tmod 5) = 1 ∨ md 5 (p.tmod 5) = 2 ∨ md 5 (p.tmod 5) = 3 ∨ md 5 (p.tmod 5) = 4 := by
  have h := tmod_lt p 5 (by decide)
  generalize p.tmod 5 = q at h
  have : q = -4 ∨ q = -3 ∨ q = -2 ∨ q = -1 ∨ q = 0 ∨ q = 1 ∨ q = 2 ∨ q = 3 ∨ q = 4 := by omega
  rcases this with h | h | h | h | h | h | h | h | h <;> subst h <;> decide
theorem md7 (p : Int) : md 7 (p.tmod 7) = 0 ∨ md 7 (p.tmod 7) = 1 ∨ md 7 (p.tmod 7) = 2 ∨ md 7 (p.tmod 7) = 3 ∨ md 7 (p.tmod 7) = 4 ∨ md 7 (p.tmod 7) = 5 ∨ md 7 (p.tmod 7) = 6 := by
  have h := tmod_lt p 7 (by decide)
  generalize p.tmod 7 = q at h
  have : q = -6 ∨ q = -5 ∨ q = -4 ∨ q = -3 ∨ q = -2 ∨ q = -1 ∨ q = 0 ∨ q = 1 ∨ q = 2 ∨ q = 3 ∨ q = 4 ∨ q = 5 ∨ q = 6 := by omega
  rcases this with h | h | h | h | h | h | h | h | h | h | h | h | h <;> subst h <;> decide
theorem tmod4 (h : Int) (hh : 0 ≤ h) : h.tmod 4 = 0 ∨ h.tmod 4 = 1 ∨ h.tmod 4 = 2 ∨ h.tmod 4 = 3 := by
  have h1 := Int.tmod_lt_of_pos h (b := 4) (by decide)
  have h2 := Int.tmod_nonneg 4 hh
  omega
/-- The run of all numbers, out of the runs of the reduced ones. -/
theorem f4_run {h n g p : Int} (hh : 0 ≤ h) (hn : 0 ≤ n) (hg : 0 ≤ g) {m : List (List AV × AV)} {G : List (List AV × AV) → Prop}
    (all : ∀ a b c k : Int, (a = 0 ∨ a = 1 ∨ a = 2 ∨ a = 3) → (b = 0 ∨ b = 1 ∨ b = 2 ∨ b = 3) → (c = 0 ∨ c = 1 ∨ c = 2 ∨ c = 3) → (k = 0 ∨ k = 1 ∨ k = 2 ∨ k = 3 ∨ k = 4) → ∃ l, G l ∧ Fin4 l m a b c k) :
    ∃ l, G l ∧ yes (callN (envG l m) 100000 201 4 [.int .u8 h, .int .u8 n, .int .u8 g, .int .i64 p] ⟨.nil, 0⟩) = true := by
  obtain ⟨l, hl, hF⟩ := all _ _ _ _ (tmod4 h hh) (tmod4 n hn) (tmod4 g hg) (md5 p)
  refine ⟨l, hl, ?_⟩
  show yes (endF x4.res (execX (call4 l m) 100000 x4.body (A4 h n g p) ⟨.nil, 0⟩)) = true
  rw [f4_head, f4_mid l m h n g p _ _ _ (tmod4 g hg)]
  exact hF h n g p
end
end Go.Proofs.YthlkmffimhnehaaGreat
