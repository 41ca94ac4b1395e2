/- Texts joined: DualActsK. No condition but those that stand within. -/
import Derived.Deep.LoopGhost
import Derived.Deep.DeepCutAuto
import Derived.Deep.CutBlock
import Derived.Test.YtcnkgiapidlbkaaGreatDoorPkSwar
import Derived.Test.YtcnkgiapidlbkaaGreatDoorPkMeter
import Derived.Test.YtcnkgiapidlbkaaGreatDoorPkErrs
import Derived.Test.YtcnkgiapidlbkaaGreatDoorPkGroup
import Derived.Test.YtcnkgiapidlbkaaGreatDoorPkTab
import Derived.Test.YtcnkgiapidlbkaaGreatDoorPkTab2
import Derived.Test.YtcnkgiapidlbkaaGreatDoorPkTab3
import Derived.Test.YtcnkgiapidlbkaaGreatDoorPkTake
import Derived.Test.YtcnkgiapidlbkaaGreatDoorPkTabM
import Derived.Test.YtcnkgiapidlbkaaGreatDoorPkBuild
import Derived.Test.YtcnkgiapidlbkaaGreatDoorPkEvac
import Derived.Test.YtcnkgiapidlbkaaGreatDoorPkSound
import Derived.Test.YtcnkgiapidlbkaaGreatDoorPkRef09
import Derived.Test.YtcnkgiapidlbkaaGreatDoorPkEvac2
import Derived.Test.YtcnkgiapidlbkaaGreatDoorPkEvac3
import Derived.Test.YtcnkgiapidlbkaaGreatDoorPkSound2
import Derived.Test.YtcnkgiapidlbkaaGreatDoorPkActs
import Derived.Test.YtcnkgiapidlbkaaGreatDoorPkDual1
import Derived.Test.YtcnkgiapidlbkaaGreatDoorPkDual2
import Derived.Test.YtcnkgiapidlbkaaGreatDoorPkDual3
import Derived.Test.YtcnkgiapidlbkaaGreatDoorPkRef13
set_option linter.unusedVariables false
set_option linter.unusedSimpArgs false
set_option linter.unusedSectionVars false
set_option maxRecDepth 100000
set_option maxHeartbeats 16000000
namespace Go.Proofs.YtcnkgiapidlbkaaGreatDoor
open Go.RowKit Go.Proofs
attribute [local go_sem] neq_nilG eql_nilG
section
variable {w0 w7:World} {C B5 B8 AL D M Rb X gt tcap A EB W:Nat} {p0:PB} {pt:Nat→PB} {s:DuS} {mt0:MeterS} {K':Nat→Prop} {L0:Int} {Lc:Nat→Int} {q0 q1 q2 bf:Int} {cs:Array Value} {E:Nat→Addr} {k gn g j x h:Nat} {kd ky vN vv:Int} {H:Int→Nat} {Q:Exit→Act→World→Prop} {a:Act} {ct0 ct1 ct2 ct3 ct4 ct7 ct9 ct10 ct15 ct16 ct17 ct18 ct19 ct20 ct21 ct22 ct23 ct24 ct25 ct26 ct27 ct28 ct29 ct30 ct31 ct32 ct33 ct34 ct35 ct36 ct37 ct38 ct39 ct40 ct41 ct42 ct43 ct44 ct45 ct46 ct47 ct48 ct49 ct50 ct51 ct52 ct53 ct54 ct55 ct56 ct57 ct58 ct59 ct60 ct61 ct62 ct63 ct64 ct65 ct66 ct67 ct68 ct69 ct70 ct71 ct72 ct73 ct74 ct75 ct76 ct77 ct78 ct79 ct80 ct81 ct82 ct83 ct84 ct85 ct86 ct87 ct88 ct89 ct91 ct92 ct93 ct94 ct95 ct96 ct97 ct98 ct99 ct100 ct101 ct102 ct103 ct104 ct105 ct106 ct107 ct108 ct109 ct110 ct111 ct112 ct113 ct114 ct115 ct116 ct117 ct118 ct119 ct120 ct121 ct122 ct123 ct124 ct125 ct126 ct127 ct128 ct129 ct130 ct131 ct132 ct133 ct134 ct135 ct136 ct137 ct138 ct139 ct140 ct141 ct142 ct143 ct144 ct145 ct146 ct147 ct148 ct149 ct150 ct151 ct152 ct153 ct154 ct155 ct156 ct157 ct158 ct159 ct160 ct161 ct162 ct163 ct164 ct165 ct166 ct167 ct168 ct169 ct170 ct171 ct172 ct173 ct174 ct175 ct176 ct177 ct178 ct179 ct180 ct181 ct182 ct183 ct184 ct185 ct186 ct187 ct188 ct189 ct190 ct191 ct192 ct193 ct194 ct195 ct196 ct197 ct198 ct199 ct200 ct201 ct202 ct203 ct204 ct205 ct206 ct207 ct208 ct209 ct210 ct211 ct212 ct213 ct214 ct215 ct216 ct217 ct218 ct219 ct220 ct221 ct222 ct223 ct224 ct225 ct226 ct227 ct228 ct229 ct230 ct231 ct232 ct233 ct234 ct235 ct236 ct237 ct238 ct239 ct240 ct241 ct242 ct243 ct244 ct245 ct246 ct247 ct248 ct249 ct250 ct251 ct252 ct253 ct254 ct255 ct256 ct257 ct258 ct259 ct260 ct261 ct262 ct263 ct264 ct265 ct266 ct267 ct268 ct269 ct270 ct271 ct272 ct273 ct274 ct275 ct276 ct277 ct278 ct279 ct280 ct281 ct282 ct283 ct284 ct285 ct286 ct287 ct288 ct289 ct290 ct291 ct292 ct293 ct294 ct295 ct296 ct297 ct298 ct299 ct300 ct301 ct302 ct303 ct304 ct305 ct306 ct307 ct308 ct309 ct310 ct311 ct312 ct313 ct314 ct315 ct316 ct317 ct318 ct319 ct320 ct321 ct322 ct323 ct324 ct325 ct326 ct327 ct328 ct329 ct330 ct331 ct332 ct333 ct334 ct335 ct336 ct337 ct338 ct339 ct340 ct341 ct342 ct343 ct344 ct345 ct346 ct347 ct348 ct349 ct350 ct351 ct352 ct353 ct354 ct355 ct356 ct357 ct358 ct359 ct360 ct361 ct362 ct363 ct364 ct365 ct366 ct367 ct368 ct369 ct370 ct371 ct372 ct373 ct374 ct375 ct376 ct377 ct378 ct379 ct380 ct381 ct382 ct383 ct384 ct385 ct386 ct387 ct388 ct389 ct390 ct391 ct392 ct393:Value}
variable (F:DaIn w0 w7 C B5 B8 AL D M Rb X gt tcap A EB W p0 pt s mt0 K' L0 Lc q0 q1 q2 bf cs E k gn g j x h kd ky vN vv H) (ha:a=⟨#[ct0,ct1,ct2,ct3,ct4,.pointer (some ⟨B5,0,none⟩),.pointer (some ⟨Rb,0,none⟩),ct7,.pointer (some ⟨B8,0,none⟩),ct9,ct10,.pointer (some ⟨A,0,none⟩),.pointer (some ⟨EB,0,none⟩),.int .i64 bf,.pointer (some ⟨W,0,none⟩),ct15,ct16,ct17,ct18,ct19,ct20,ct21,ct22,ct23,ct24,ct25,ct26,ct27,ct28,ct29,ct30,ct31,ct32,ct33,ct34,ct35,ct36,ct37,ct38,ct39,ct40,ct41,ct42,ct43,ct44,ct45,ct46,ct47,ct48,ct49,ct50,ct51,ct52,ct53,ct54,ct55,ct56,ct57,ct58,ct59,ct60,ct61,ct62,ct63,ct64,ct65,ct66,ct67,ct68,ct69,ct70,ct71,ct72,ct73,ct74,ct75,ct76,ct77,ct78,ct79,ct80,ct81,ct82,ct83,ct84,ct85,ct86,ct87,ct88,ct89,.int .i64 kd,ct91,ct92,ct93,ct94,ct95,ct96,ct97,ct98,ct99,ct100,ct101,ct102,ct103,ct104,ct105,ct106,ct107,ct108,ct109,ct110,ct111,ct112,ct113,ct114,ct115,ct116,ct117,ct118,ct119,ct120,ct121,ct122,ct123,ct124,ct125,ct126,ct127,ct128,ct129,ct130,ct131,ct132,ct133,ct134,ct135,ct136,ct137,ct138,ct139,ct140,ct141,ct142,ct143,ct144,ct145,ct146,ct147,ct148,ct149,ct150,ct151,ct152,ct153,ct154,ct155,ct156,ct157,ct158,ct159,ct160,ct161,ct162,ct163,ct164,ct165,ct166,ct167,ct168,ct169,ct170,ct171,ct172,ct173,ct174,ct175,ct176,ct177,ct178,ct179,ct180,ct181,ct182,ct183,ct184,ct185,ct186,ct187,ct188,ct189,ct190,ct191,ct192,ct193,ct194,ct195,ct196,ct197,ct198,ct199,ct200,ct201,ct202,ct203,ct204,ct205,ct206,ct207,ct208,ct209,ct210,ct211,ct212,ct213,ct214,ct215,ct216,ct217,ct218,ct219,ct220,ct221,ct222,ct223,ct224,ct225,ct226,ct227,ct228,ct229,ct230,ct231,ct232,ct233,ct234,ct235,ct236,ct237,ct238,ct239,ct240,ct241,ct242,ct243,ct244,ct245,ct246,ct247,ct248,ct249,ct250,ct251,ct252,ct253,ct254,ct255,ct256,ct257,ct258,ct259,ct260,ct261,ct262,ct263,ct264,ct265,ct266,ct267,ct268,ct269,ct270,ct271,ct272,ct273,ct274,ct275,ct276,ct277,ct278,ct279,ct280,ct281,ct282,ct283,ct284,ct285,ct286,ct287,ct288,ct289,ct290,ct291,ct292,ct293,ct294,ct295,ct296,ct297,ct298,ct299,ct300,ct301,ct302,ct303,ct304,ct305,ct306,ct307,ct308,ct309,ct310,ct311,ct312,ct313,ct314,ct315,ct316,ct317,ct318,ct319,ct320,ct321,ct322,ct323,ct324,ct325,ct326,ct327,ct328,ct329,ct330,ct331,ct332,ct333,ct334,ct335,ct336,ct337,ct338,ct339,ct340,ct341,ct342,ct343,ct344,ct345,ct346,ct347,ct348,ct349,ct350,ct351,ct352,ct353,ct354,ct355,ct356,ct357,ct358,ct359,ct360,ct361,ct362,ct363,ct364,ct365,ct366,ct367,ct368,ct369,ct370,ct371,ct372,ct373,ct374,ct375,ct376,ct377,ct378,ct379,ct380,ct381,ct382,ct383,ct384,ct385,ct386,ct387,ct388,ct389,ct390,ct391,ct392,ct393],[]⟩)
variable (hQ:∀ (s':DuS) (mt':MeterS) (L0':Int) (Lc':Nat→Int) (bf' p' v' u':Int) (ut4 ut15 ut16 ut17 ut18 ut19 ut20 ut21 ut22 ut23 ut24 ut25 ut26 ut27 ut28 ut29 ut30 ut31 ut32 ut33 ut34 ut35 ut36 ut37 ut38 ut39 ut40 ut91 ut92 ut93 ut94 ut95 ut96 ut97 ut98 ut99 ut100 ut101 ut102 ut103 ut104 ut105 ut106 ut107 ut108 ut109 ut110 ut111 ut112 ut113 ut114 ut115 ut116 ut117 ut118 ut119 ut120 ut121 ut122 ut123 ut124 ut125 ut126 ut127 ut128 ut129 ut130 ut131 ut132 ut133 ut134 ut135 ut136 ut137 ut138 ut139 ut140 ut141 ut142 ut143 ut144 ut145 ut146 ut147 ut148 ut149 ut150 ut151 ut152 ut153 ut154 ut155 ut156 ut157 ut158 ut159 ut160 ut161 ut162 ut163 ut164 ut165 ut166 ut167 ut168 ut169 ut170 ut171 ut172 ut173 ut174 ut175 ut176 ut177 ut178 ut179 ut180 ut181 ut182 ut183 ut184 ut185 ut186 ut187 ut188 ut189 ut190 ut191 ut192 ut193 ut194 ut195 ut196 ut197 ut198 ut199 ut200 ut201 ut202 ut203 ut204 ut205 ut206 ut207 ut208 ut209 ut210 ut211 ut212 ut213 ut214 ut215 ut216 ut217 ut218 ut219 ut220 ut221 ut222 ut223 ut224 ut225 ut226 ut227 ut228 ut229 ut230 ut231 ut232 ut233 ut234 ut235 ut236 ut237 ut238 ut239 ut240 ut241 ut242 ut243 ut244 ut245 ut246 ut247 ut248 ut249 ut250 ut251 ut252 ut253 ut254 ut255 ut256 ut257 ut258 ut259 ut260 ut261 ut262 ut263 ut264 ut265 ut266 ut267 ut268 ut269 ut270 ut271 ut272 ut273 ut274 ut275 ut276 ut277 ut278 ut279 ut280 ut281 ut282 ut283 ut284 ut285 ut286 ut287 ut288 ut289 ut290 ut291 ut292 ut293 ut294 ut295 ut296 ut297 ut298 ut299 ut300 ut301 ut302 ut303 ut304 ut305 ut306 ut307 ut308 ut309 ut310 ut311 ut312 ut313 ut314 ut315 ut316 ut317 ut318 ut319 ut320 ut321 ut322 ut323 ut324 ut325 ut326 ut327 ut328 ut329 ut330 ut331 ut332:Value) (wx:World),daRel wx w0 C B5 B8 AL D M Rb X gt tcap W p0 pt K' L0 q0 q1 q2 cs E k gn g j H s' mt' L0' Lc' bf' p' v' u'→Q .normal ⟨#[ct0,ct1,ct2,ct3,ut4,.pointer (some ⟨B5,0,none⟩),.pointer (some ⟨Rb,0,none⟩),ct7,.pointer (some ⟨B8,0,none⟩),ct9,ct10,.pointer (some ⟨A,0,none⟩),.pointer (some ⟨EB,0,none⟩),.int .i64 bf',.pointer (some ⟨W,0,none⟩),ut15,ut16,ut17,ut18,ut19,ut20,ut21,ut22,ut23,ut24,ut25,ut26,ut27,ut28,ut29,ut30,ut31,ut32,ut33,ut34,ut35,ut36,ut37,ut38,ut39,ut40,ct41,ct42,ct43,ct44,ct45,ct46,ct47,ct48,ct49,ct50,ct51,ct52,ct53,ct54,ct55,ct56,ct57,ct58,ct59,ct60,ct61,ct62,ct63,ct64,ct65,ct66,ct67,ct68,ct69,ct70,ct71,ct72,ct73,ct74,ct75,ct76,ct77,ct78,ct79,ct80,ct81,ct82,ct83,ct84,ct85,ct86,ct87,ct88,ct89,.int .i64 kd,ut91,ut92,ut93,ut94,ut95,ut96,ut97,ut98,ut99,ut100,ut101,ut102,ut103,ut104,ut105,ut106,ut107,ut108,ut109,ut110,ut111,ut112,ut113,ut114,ut115,ut116,ut117,ut118,ut119,ut120,ut121,ut122,ut123,ut124,ut125,ut126,ut127,ut128,ut129,ut130,ut131,ut132,ut133,ut134,ut135,ut136,ut137,ut138,ut139,ut140,ut141,ut142,ut143,ut144,ut145,ut146,ut147,ut148,ut149,ut150,ut151,ut152,ut153,ut154,ut155,ut156,ut157,ut158,ut159,ut160,ut161,ut162,ut163,ut164,ut165,ut166,ut167,ut168,ut169,ut170,ut171,ut172,ut173,ut174,ut175,ut176,ut177,ut178,ut179,ut180,ut181,ut182,ut183,ut184,ut185,ut186,ut187,ut188,ut189,ut190,ut191,ut192,ut193,ut194,ut195,ut196,ut197,ut198,ut199,ut200,ut201,ut202,ut203,ut204,ut205,ut206,ut207,ut208,ut209,ut210,ut211,ut212,ut213,ut214,ut215,ut216,ut217,ut218,ut219,ut220,ut221,ut222,ut223,ut224,ut225,ut226,ut227,ut228,ut229,ut230,ut231,ut232,ut233,ut234,ut235,ut236,ut237,ut238,ut239,ut240,ut241,ut242,ut243,ut244,ut245,ut246,ut247,ut248,ut249,ut250,ut251,ut252,ut253,ut254,ut255,ut256,ut257,ut258,ut259,ut260,ut261,ut262,ut263,ut264,ut265,ut266,ut267,ut268,ut269,ut270,ut271,ut272,ut273,ut274,ut275,ut276,ut277,ut278,ut279,ut280,ut281,ut282,ut283,ut284,ut285,ut286,ut287,ut288,ut289,ut290,ut291,ut292,ut293,ut294,ut295,ut296,ut297,ut298,ut299,ut300,ut301,ut302,ut303,ut304,ut305,ut306,ut307,ut308,ut309,ut310,ut311,ut312,ut313,ut314,ut315,ut316,ut317,ut318,ut319,ut320,ut321,ut322,ut323,ut324,ut325,ut326,ut327,ut328,ut329,ut330,ut331,ut332,ct333,ct334,ct335,ct336,ct337,ct338,ct339,ct340,ct341,ct342,ct343,ct344,ct345,ct346,ct347,ct348,ct349,ct350,ct351,ct352,ct353,ct354,ct355,ct356,ct357,ct358,ct359,ct360,ct361,ct362,ct363,ct364,ct365,ct366,ct367,ct368,ct369,ct370,ct371,ct372,ct373,ct374,ct375,ct376,ct377,ct378,ct379,ct380,ct381,ct382,ct383,ct384,ct385,ct386,ct387,ct388,ct389,ct390,ct391,ct392,ct393],[]⟩ wx)
variable (hPan:Hid (∀ (c:List PanicEntry) (a:Act) (d:Option Tmp) (v:Value) (w:World),Q (.panic c) (a.put d v) w→Q (.panic c) a w))
variable (hR:∀ (ut13 ut15 ut16 ut17 ut18 ut19 ut20 ut21 ut22 ut23 ut24 ut25 ut26 ut27 ut28 ut29 ut30 ut31 ut32 ut33 ut34 ut35 ut36 ut37 ut38 ut39 ut40 ut91 ut92 ut93 ut94 ut95 ut96 ut97 ut98 ut99 ut100 ut101 ut102 ut103 ut104 ut105 ut106 ut107 ut108 ut109 ut110 ut111 ut112 ut113 ut114 ut115 ut116 ut117 ut118 ut119 ut120 ut121 ut122 ut123 ut124 ut125 ut126 ut127 ut128 ut129 ut130 ut131 ut132 ut133 ut134 ut135 ut136 ut137 ut138 ut139 ut140 ut141 ut142 ut143 ut144 ut145 ut146 ut147 ut148 ut149 ut150 ut151 ut152 ut153 ut154 ut155 ut156 ut157 ut158 ut159 ut160 ut161 ut162 ut163 ut164 ut165 ut166 ut167 ut168 ut169 ut170 ut171 ut172 ut173 ut174 ut175 ut176 ut177 ut178 ut179 ut180 ut181 ut182 ut183 ut184 ut185 ut186 ut187 ut188 ut189 ut190 ut191 ut192 ut193 ut194 ut195 ut196 ut197 ut198 ut199 ut200 ut201 ut202 ut203 ut204 ut205 ut206 ut207 ut208 ut209 ut210 ut211 ut212 ut213 ut214 ut215 ut216 ut217 ut218 ut219 ut220 ut221 ut222 ut223 ut224 ut225 ut226 ut227 ut228 ut229 ut230 ut231 ut232 ut233 ut234 ut235 ut236 ut237 ut238 ut239 ut240 ut241 ut242 ut243 ut244 ut245 ut246 ut247 ut248 ut249 ut250 ut251 ut252 ut253 ut254 ut255 ut256 ut257 ut258 ut259 ut260 ut261 ut262 ut263 ut264 ut265 ut266 ut267 ut268 ut269 ut270 ut271 ut272 ut273 ut274 ut275 ut276 ut277 ut278 ut279 ut280 ut281 ut282 ut283 ut284 ut285 ut286 ut287 ut288 ut289 ut290 ut291 ut292 ut293 ut294 ut295 ut296 ut297 ut298 ut299 ut300 ut301 ut302 ut303 ut304 ut305 ut306 ut307 ut308 ut309 ut310 ut311 ut312 ut313 ut314 ut315 ut316 ut317 ut318 ut319 ut320 ut321 ut322 ut323 ut324 ut325 ut326 ut327 ut328 ut329 ut330 ut331 ut332:Value) (wx:World),Below w0.heap.size w0 wx→Q .ret ⟨#[ct0,ct1,ct2,ct3,.bool true,.pointer (some ⟨B5,0,none⟩),.pointer (some ⟨Rb,0,none⟩),ct7,.pointer (some ⟨B8,0,none⟩),ct9,ct10,.pointer (some ⟨A,0,none⟩),.pointer (some ⟨EB,0,none⟩),ut13,.pointer (some ⟨W,0,none⟩),ut15,ut16,ut17,ut18,ut19,ut20,ut21,ut22,ut23,ut24,ut25,ut26,ut27,ut28,ut29,ut30,ut31,ut32,ut33,ut34,ut35,ut36,ut37,ut38,ut39,ut40,ct41,ct42,ct43,ct44,ct45,ct46,ct47,ct48,ct49,ct50,ct51,ct52,ct53,ct54,ct55,ct56,ct57,ct58,ct59,ct60,ct61,ct62,ct63,ct64,ct65,ct66,ct67,ct68,ct69,ct70,ct71,ct72,ct73,ct74,ct75,ct76,ct77,ct78,ct79,ct80,ct81,ct82,ct83,ct84,ct85,ct86,ct87,ct88,ct89,.int .i64 kd,ut91,ut92,ut93,ut94,ut95,ut96,ut97,ut98,ut99,ut100,ut101,ut102,ut103,ut104,ut105,ut106,ut107,ut108,ut109,ut110,ut111,ut112,ut113,ut114,ut115,ut116,ut117,ut118,ut119,ut120,ut121,ut122,ut123,ut124,ut125,ut126,ut127,ut128,ut129,ut130,ut131,ut132,ut133,ut134,ut135,ut136,ut137,ut138,ut139,ut140,ut141,ut142,ut143,ut144,ut145,ut146,ut147,ut148,ut149,ut150,ut151,ut152,ut153,ut154,ut155,ut156,ut157,ut158,ut159,ut160,ut161,ut162,ut163,ut164,ut165,ut166,ut167,ut168,ut169,ut170,ut171,ut172,ut173,ut174,ut175,ut176,ut177,ut178,ut179,ut180,ut181,ut182,ut183,ut184,ut185,ut186,ut187,ut188,ut189,ut190,ut191,ut192,ut193,ut194,ut195,ut196,ut197,ut198,ut199,ut200,ut201,ut202,ut203,ut204,ut205,ut206,ut207,ut208,ut209,ut210,ut211,ut212,ut213,ut214,ut215,ut216,ut217,ut218,ut219,ut220,ut221,ut222,ut223,ut224,ut225,ut226,ut227,ut228,ut229,ut230,ut231,ut232,ut233,ut234,ut235,ut236,ut237,ut238,ut239,ut240,ut241,ut242,ut243,ut244,ut245,ut246,ut247,ut248,ut249,ut250,ut251,ut252,ut253,ut254,ut255,ut256,ut257,ut258,ut259,ut260,ut261,ut262,ut263,ut264,ut265,ut266,ut267,ut268,ut269,ut270,ut271,ut272,ut273,ut274,ut275,ut276,ut277,ut278,ut279,ut280,ut281,ut282,ut283,ut284,ut285,ut286,ut287,ut288,ut289,ut290,ut291,ut292,ut293,ut294,ut295,ut296,ut297,ut298,ut299,ut300,ut301,ut302,ut303,ut304,ut305,ut306,ut307,ut308,ut309,ut310,ut311,ut312,ut313,ut314,ut315,ut316,ut317,ut318,ut319,ut320,ut321,ut322,ut323,ut324,ut325,ut326,ut327,ut328,ut329,ut330,ut331,ut332,ct333,ct334,ct335,ct336,ct337,ct338,ct339,ct340,ct341,ct342,ct343,ct344,ct345,ct346,ct347,ct348,ct349,ct350,ct351,ct352,ct353,ct354,ct355,ct356,ct357,ct358,ct359,ct360,ct361,ct362,ct363,ct364,ct365,ct366,ct367,ct368,ct369,ct370,ct371,ct372,ct373,ct374,ct375,ct376,ct377,ct378,ct379,ct380,ct381,ct382,ct383,ct384,ct385,ct386,ct387,ct388,ct389,ct390,ct391,ct392,ct393],[]⟩ wx)
include F ha hQ hPan hR
theorem daK0 (hkd:kd=0):Code.wp Tryz.prog daBlk Q a w7:=by
 subst ha
 subst hkd
 conv=>arg 2;whnf
 have D7:=hiq F.d
 have A7:=hiq F.a
 have E7:=hiq F.e
 have W7:=hiq F.t
 have HKK':=hiq F.kk
 have NX:=hiq F.nx
 have HWK:=hiq F.wk
 have HWK2:=hiq (show ¬KA C B5 B8 AL Rb X gt p0 pt s.stp.k W from by rw [(stp_k s).1];exact F.wk)
 have hWW:=F.ww
 have HSK:=hiq F.sk
 have HY:=hiq F.y
 have HHx:=hiq F.hx
 have hGx:=F.gx
 have HHb:=hiq F.hb
 have hCN0:=hiq F.cn
 have hq:=F.q
 have hL0:=F.l
 have HLC:=hiq F.lc
 have HBF:=hiq F.bf
 have HE:=hiq F.he
 have hv0:=F.vv
 have hgb:=F.g
 have hjb:=F.j
 have HQ:=hiq hQ
 have HR:=hiq hR
 have hyk:=HY.out.f.ok.yk h
 have hlT:s.lkT (x:Int) h≤64:=by unfold DuS.lkT;split;omega;exact looks_n HY.out.f.t.good _ _
 have hlU:s.lkU (x:Int) h≤64:=by unfold DuS.lkU;split;exact looks_n (HY.out.f.ok.u _ hyk).1 _ _;omega
 have hLy:0≤Lc (s.y h)∧Lc (s.y h)≤100000000:=by have:=HLC.out (s.y h) (by rw [←HSK.out.1];exact hyk);omega
 have hL8:0≤L0∧L0≤100000000:=by omega
 clear hQ hR F
 have PU:=hiq (fun (w':World) (h':D1s w' D s false M mt0 K' E w0)=>h'.put (x:Int) vv h hGx true 1 0 0)
 have MP:=hiq (fun (w':World) (h':DM w' Rb X gt tcap p0 pt s false L0 Lc)=>h'.put hyk hL8 hLy (x:Int) vv true hGx)
 have hpn:s.putN (x:Int) h true≤2:=by unfold DuS.putN TabS.putN;split;omega;split;omega;split <;> omega
 have HY2:=hiq (show DuCt (s.put (x:Int) vv h true) H (112+(j:Int)+1) from by
  have:=HY.out.put (x:Int) vv (by rw [HHx.out];exact hGx) true
  rw [HHx.out] at this;exact this)
 have HS2:=hiq (show (s.put (x:Int) vv h true).k=k∧(s.put (x:Int) vv h true).gn=gn∧(s.put (x:Int) vv h true).T.n=g from by
  obtain ⟨e1,e2,-⟩:=put_gn s (x:Int) vv h true
  rw [e1,e2,(put_kb s (x:Int) vv h true).1];exact HSK.out)
 obtain ⟨s2,hs2⟩:∃s2,s2=s.put (x:Int) vv h true:=⟨_,rfl⟩
 rw [←hs2] at PU MP HY2 HS2
 obtain ⟨n,hn⟩:∃n,n=s.lkU (x:Int) h+s.lkT (x:Int) h:=⟨_,rfl⟩
 rw [←hn] at PU
 have HCN2:=hiq (hCN0.out.probes (by omega) n (by omega))
 generalize s.putN (x:Int) h true=pn at *
 generalize s.putB (x:Int) h true=pb at *
 have NU:=hiq (fun (w':World) (h':ErrsAre w' E)=>num_any E pn (by omega) w' h')
 have HN:=hiq hn
 obtain ⟨a0,a1,a2'⟩:=cells3 A7.out
 have za:=A7.out.lt
 obtain ⟨e0,e1,e2⟩:=cells3 E7.out
 have ze:=E7.out.lt
 have m5:=D7.out.b5.cell 0
 have zm5:=D7.out.b5.lt
 have m8:=D7.out.b8.cell 0
 have zm8:=D7.out.b8.lt
 clear hn hs2
 go_upto_region 34 with (fail)
 refine wp_region_seq (fun _=>False) #[⟨0,0,2^135,32,1⟩,⟨0,0,2^136,256,1⟩,⟨2,2,2^137,2^136,2⟩,⟨0,0,2^138,4096,1⟩,⟨0,0,2^139,2048,0⟩,⟨16,16,2^140,2^139,1⟩,⟨32,48,2^141,2^140,0⟩,⟨77,127,2^142,3353823008372769495895020130847507492110336,3⟩,⟨128,255,2^134,2^142,0⟩,⟨256,511,2^143,2^134,0⟩,⟨256,511,2^144,2^134,0⟩,⟨1023,1023,32768,2^143,0⟩,⟨4095,4095,65536,2^144,0⟩] 43 [(0,1),(1,1),(3,1),(4,0),(5,1),(6,0),(2,2),(7,3),(8,0),(9,0),(10,0),(11,0),(12,0)] (by kernel_rfl) (by decide +kernel) (by kernel_rfl) (by kernel_rfl) (by decide +kernel) (by decide +kernel) (fun c a d v w h=>hPan.out c a d v w h) ?_
 refine zq1 Tryz.underlying28 ?_
 try refine zqP ?_
 refine zq1 Tryz.underlying32 ?_
 try refine zqP ?_
 refine zqL [_,_,_] Tryz.underlying41 ?_
 try refine zqP ?_;refine zqC ?_
 refine zq1 Tryz.underlying3 ?_
 try refine zqP ?_;refine zqC ?_
 refine zqD fun K hK=>?_;go_wp2_with ((go_at_call 12;(with_reducible refine (probing_any _ _).mono ?_);rintro e w8 ⟨rfl,hb8⟩;(try dsimp only);have D8:=hiq (D7.out.drew.later hb8);have A8:=hiq (A7.out.drew.below hb8 A7.out.drew.lt);have E8:=hiq (E7.out.drew.below hb8 E7.out.drew.lt);have W8:=hiq (W7.out.drew.below hb8 W7.out.drew.lt)));refine hkA hK (h:=?_);clear hK K
 try refine zqP ?_
 refine zqE fun K hK=>?_;go_wp2_with ((go_at_call 11;((with_reducible refine (PU.out _ D8.out.z).mono ?_);rintro e w9 ⟨rfl,hz9,hc9⟩;(try dsimp only);have Z9:=hiq hz9;have C9:=hiq hc9;have R9:=hiq (D8.out.keptM hc9).1;have A9:=hiq (A8.out.chg hc9 (fun e=>e.2 HKK'.out.1));have E9:=hiq (E8.out.chg hc9 (fun e=>e.2 HKK'.out.2.1));have W9:=hiq (W8.out.chg hc9 (fun e=>e.2 HKK'.out.2.2.1));have a9:=A9.out.cell 0;have za9:=A9.out.lt;have e9:=cells3 E9.out;have e90:=e9.1;have e91:=e9.2.1;have e92:=e9.2.2;have ze9:=E9.out.lt;clear e9 hz9 a0 a1 a2' za e0 e1 e2 ze m5 zm5 m8 zm8)));refine hK.out _ _ ?_;clear hK K
 try refine zqP ?_;refine zqC ?_;refine zqC ?_;refine zqC ?_;refine zqC ?_;refine zqC ?_
 refine seq_nil ?_
 go_wp2_with (first
  | (go_at_call 13;(with_reducible refine (MP.out _ R9.out).mono ?_);rintro e w10 ⟨rfl,hr10,hc10⟩;(try dsimp only);have D10:=hiq (D8.out.both (s':=s2) (HS2.out.1.trans HSK.out.1.symm) Z9.out C9.out hr10 hc10);have W10:=hiq (W9.out.chg hc10 (fun e=>(NX.out _ (by rw [←HSK.out.1];exact e)).2.2 rfl));clear hr10 hc10)
  | (go_at_call 14;(with_reducible refine (NU.out _ (HE.out.below D10.out.z.bel)).mono ?_);rintro e w11 ⟨rfl,hb11⟩;(try dsimp only);have D11:=hiq (D10.out.later hb11);have W11:=hiq (W10.out.below hb11 W10.out.lt)))
 have hsum:sumI (upd Lc (s.y h) (Lc (s.y h)+s.lkU (x:Int) h)) k=sumI Lc k+s.lkU (x:Int) h:=by rw [sumI_upd (by rw [←HSK.out.1];exact hyk)];omega
 have hd:0+(L0+(s.lkT (x:Int) h:Int)+sumI (upd Lc (s.y h) (Lc (s.y h)+s.lkU (x:Int) h)) k-bf)=(n:Int):=by
  have h1:=HBF.out
  rw [HSK.out.1] at h1
  rw [hsum,h1,HN.out];omega
 have hbfb:0≤bf∧bf≤1000000000:=by
  have h1:=HBF.out
  have h2:=sumI_bd (f:=Lc) (m:=10000*(j:Int)) (n:=s.k) (fun i hi=>HLC.out i (by rw [←HSK.out.1];exact hi))
  have h3:=HY.out.k12
  have h4:(s.k:Int)*(10000*(j:Int))≤2*(10000*(j:Int)):=Int.mul_le_mul_of_nonneg_right (by omega) (by omega)
  omega
 have hnn:=HN.out
 refine HQ.out s2 _ _ _ bf 0 0 0 _ _ _ _ _ _ _ _ _ _ _ _ _ _ _ _ _ _ _ _ _ _ _ _ _ _ _ _ _ _ _ _ _ _ _ _ _ _ _ _ _ _ _ _ _ _ _ _ _ _ _ _ _ _ _ _ _ _ _ _ _ _ _ _ _ _ _ _ _ _ _ _ _ _ _ _ _ _ _ _ _ _ _ _ _ _ _ _ _ _ _ _ _ _ _ _ _ _ _ _ _ _ _ _ _ _ _ _ _ _ _ _ _ _ _ _ _ _ _ _ _ _ _ _ _ _ _ _ _ _ _ _ _ _ _ _ _ _ _ _ _ _ _ _ _ _ _ _ _ _ _ _ _ _ _ _ _ _ _ _ _ _ _ _ _ _ _ _ _ _ _ _ _ _ _ _ _ _ _ _ _ _ _ _ _ _ _ _ _ _ _ _ _ _ _ _ _ _ _ _ _ _ _ _ _ _ _ _ _ _ _ _ _ _ _ _ _ _ _ _ _ _ _ _ _ _ _ _ _ _ _ _ _ _ _ _ _ _ _ _ _ _ _ _ _ _ _ _ _ _ _ _ _ _ _ _ _ _ _ _ _ _ _ _ _ _ _ _ _ _ ⟨D11.out,W11.out,HY2.out,HS2.out,?_,?_,by omega,by omega,by omega,hbfb,by omega,fun i hi=>?_⟩
 · rw [hd];simpa using HCN2.out
 · rw [hd];omega
 · have:=HLC.out i hi
   by_cases e:i=s.y h
   · subst e;rw [upd_same];omega
   · rw [upd_other _ _ e];omega
theorem daK1 (hkd:kd=1):Code.wp Tryz.prog daBlk Q a w7:=by
 subst ha
 subst hkd
 conv=>arg 2;whnf
 have D7:=hiq F.d
 have A7:=hiq F.a
 have E7:=hiq F.e
 have W7:=hiq F.t
 have HKK':=hiq F.kk
 have NX:=hiq F.nx
 have HWK:=hiq F.wk
 have HWK2:=hiq (show ¬KA C B5 B8 AL Rb X gt p0 pt s.stp.k W from by rw [(stp_k s).1];exact F.wk)
 have hWW:=F.ww
 have HSK:=hiq F.sk
 have HY:=hiq F.y
 have HHx:=hiq F.hx
 have hGx:=F.gx
 have HHb:=hiq F.hb
 have hCN0:=hiq F.cn
 have hq:=F.q
 have hL0:=F.l
 have HLC:=hiq F.lc
 have HBF:=hiq F.bf
 have HE:=hiq F.he
 have hv0:=F.vv
 have hgb:=F.g
 have hjb:=F.j
 have HQ:=hiq hQ
 have HR:=hiq hR
 have hyk:=HY.out.f.ok.yk h
 have hlT:s.lkT (x:Int) h≤64:=by unfold DuS.lkT;split;omega;exact looks_n HY.out.f.t.good _ _
 have hlU:s.lkU (x:Int) h≤64:=by unfold DuS.lkU;split;exact looks_n (HY.out.f.ok.u _ hyk).1 _ _;omega
 have hLy:0≤Lc (s.y h)∧Lc (s.y h)≤100000000:=by have:=HLC.out (s.y h) (by rw [←HSK.out.1];exact hyk);omega
 have hL8:0≤L0∧L0≤100000000:=by omega
 clear hQ hR F
 have PU:=hiq (fun (w':World) (h':D1s w' D s false M mt0 K' E w0)=>h'.put (x:Int) vv h hGx false 1 0 0)
 have MP:=hiq (fun (w':World) (h':DM w' Rb X gt tcap p0 pt s false L0 Lc)=>h'.put hyk hL8 hLy (x:Int) vv false hGx)
 have hpn:s.putN (x:Int) h false≤2:=by unfold DuS.putN TabS.putN;split;omega;split;omega;split <;> omega
 have HY2:=hiq (show DuCt (s.put (x:Int) vv h false) H (112+(j:Int)+1) from by
  have:=HY.out.put (x:Int) vv (by rw [HHx.out];exact hGx) false
  rw [HHx.out] at this;exact this)
 have HS2:=hiq (show (s.put (x:Int) vv h false).k=k∧(s.put (x:Int) vv h false).gn=gn∧(s.put (x:Int) vv h false).T.n=g from by
  obtain ⟨e1,e2,-⟩:=put_gn s (x:Int) vv h false
  rw [e1,e2,(put_kb s (x:Int) vv h false).1];exact HSK.out)
 obtain ⟨s2,hs2⟩:∃s2,s2=s.put (x:Int) vv h false:=⟨_,rfl⟩
 rw [←hs2] at PU MP HY2 HS2
 obtain ⟨n,hn⟩:∃n,n=s.lkU (x:Int) h+s.lkT (x:Int) h:=⟨_,rfl⟩
 rw [←hn] at PU
 have HCN2:=hiq (hCN0.out.probes (by omega) n (by omega))
 generalize s.putN (x:Int) h false=pn at *
 generalize s.putB (x:Int) h false=pb at *
 have NU:=hiq (fun (w':World) (h':ErrsAre w' E)=>num_any E pn (by omega) w' h')
 have HN:=hiq hn
 obtain ⟨a0,a1,a2'⟩:=cells3 A7.out
 have za:=A7.out.lt
 obtain ⟨e0,e1,e2⟩:=cells3 E7.out
 have ze:=E7.out.lt
 have m5:=D7.out.b5.cell 0
 have zm5:=D7.out.b5.lt
 have m8:=D7.out.b8.cell 0
 have zm8:=D7.out.b8.lt
 clear hn hs2
 go_upto_region 34 with (fail)
 refine wp_region_seq (fun _=>False) #[⟨0,0,2^135,32,1⟩,⟨0,0,2^136,256,1⟩,⟨2,2,2^137,2^136,2⟩,⟨0,0,2^138,4096,1⟩,⟨0,0,2^139,2048,0⟩,⟨16,16,2^140,2^139,1⟩,⟨32,48,2^141,2^140,0⟩,⟨77,127,2^142,3353823008372769495895020130847507492110336,3⟩,⟨128,255,2^134,2^142,0⟩,⟨256,511,2^143,2^134,0⟩,⟨256,511,2^144,2^134,0⟩,⟨1023,1023,32768,2^143,0⟩,⟨4095,4095,65536,2^144,0⟩] 43 [(0,1),(1,1),(3,1),(4,0),(5,1),(6,0),(2,2),(7,3),(8,0),(9,0),(10,0),(11,0),(12,0)] (by kernel_rfl) (by decide +kernel) (by kernel_rfl) (by kernel_rfl) (by decide +kernel) (by decide +kernel) (fun c a d v w h=>hPan.out c a d v w h) ?_
 refine zq1 Tryz.underlying28 ?_
 try refine zqP ?_
 refine zq1 Tryz.underlying32 ?_
 try refine zqP ?_
 refine zqL [_,_,_] Tryz.underlying41 ?_
 try refine zqP ?_;refine zqC ?_
 refine zq1 Tryz.underlying3 ?_
 try refine zqP ?_;refine zqC ?_
 refine zqD fun K hK=>?_;go_wp2_with ((go_at_call 12;(with_reducible refine (probing_any _ _).mono ?_);rintro e w8 ⟨rfl,hb8⟩;(try dsimp only);have D8:=hiq (D7.out.drew.later hb8);have A8:=hiq (A7.out.drew.below hb8 A7.out.drew.lt);have E8:=hiq (E7.out.drew.below hb8 E7.out.drew.lt);have W8:=hiq (W7.out.drew.below hb8 W7.out.drew.lt)));refine hkA hK (h:=?_);clear hK K
 try refine zqP ?_
 refine zqE fun K hK=>?_;go_wp2_with ((go_at_call 11;((with_reducible refine (PU.out _ D8.out.z).mono ?_);rintro e w9 ⟨rfl,hz9,hc9⟩;(try dsimp only);have Z9:=hiq hz9;have C9:=hiq hc9;have R9:=hiq (D8.out.keptM hc9).1;have A9:=hiq (A8.out.chg hc9 (fun e=>e.2 HKK'.out.1));have E9:=hiq (E8.out.chg hc9 (fun e=>e.2 HKK'.out.2.1));have W9:=hiq (W8.out.chg hc9 (fun e=>e.2 HKK'.out.2.2.1));have a9:=A9.out.cell 0;have za9:=A9.out.lt;have e9:=cells3 E9.out;have e90:=e9.1;have e91:=e9.2.1;have e92:=e9.2.2;have ze9:=E9.out.lt;clear e9 hz9 a0 a1 a2' za e0 e1 e2 ze m5 zm5 m8 zm8)));refine hK.out _ _ ?_;clear hK K
 try refine zqP ?_;refine zqC ?_;refine zqC ?_;refine zqC ?_;refine zqC ?_;refine zqC ?_
 refine seq_nil ?_
 go_wp2_with (first
  | (go_at_call 13;(with_reducible refine (MP.out _ R9.out).mono ?_);rintro e w10 ⟨rfl,hr10,hc10⟩;(try dsimp only);have D10:=hiq (D8.out.both (s':=s2) (HS2.out.1.trans HSK.out.1.symm) Z9.out C9.out hr10 hc10);have W10:=hiq (W9.out.chg hc10 (fun e=>(NX.out _ (by rw [←HSK.out.1];exact e)).2.2 rfl));clear hr10 hc10)
  | (go_at_call 14;(with_reducible refine (NU.out _ (HE.out.below D10.out.z.bel)).mono ?_);rintro e w11 ⟨rfl,hb11⟩;(try dsimp only);have D11:=hiq (D10.out.later hb11);have W11:=hiq (W10.out.below hb11 W10.out.lt)))
 have hsum:sumI (upd Lc (s.y h) (Lc (s.y h)+s.lkU (x:Int) h)) k=sumI Lc k+s.lkU (x:Int) h:=by rw [sumI_upd (by rw [←HSK.out.1];exact hyk)];omega
 have hd:0+(L0+(s.lkT (x:Int) h:Int)+sumI (upd Lc (s.y h) (Lc (s.y h)+s.lkU (x:Int) h)) k-bf)=(n:Int):=by
  have h1:=HBF.out
  rw [HSK.out.1] at h1
  rw [hsum,h1,HN.out];omega
 have hbfb:0≤bf∧bf≤1000000000:=by
  have h1:=HBF.out
  have h2:=sumI_bd (f:=Lc) (m:=10000*(j:Int)) (n:=s.k) (fun i hi=>HLC.out i (by rw [←HSK.out.1];exact hi))
  have h3:=HY.out.k12
  have h4:(s.k:Int)*(10000*(j:Int))≤2*(10000*(j:Int)):=Int.mul_le_mul_of_nonneg_right (by omega) (by omega)
  omega
 have hnn:=HN.out
 refine HQ.out s2 _ _ _ bf 0 0 0 _ _ _ _ _ _ _ _ _ _ _ _ _ _ _ _ _ _ _ _ _ _ _ _ _ _ _ _ _ _ _ _ _ _ _ _ _ _ _ _ _ _ _ _ _ _ _ _ _ _ _ _ _ _ _ _ _ _ _ _ _ _ _ _ _ _ _ _ _ _ _ _ _ _ _ _ _ _ _ _ _ _ _ _ _ _ _ _ _ _ _ _ _ _ _ _ _ _ _ _ _ _ _ _ _ _ _ _ _ _ _ _ _ _ _ _ _ _ _ _ _ _ _ _ _ _ _ _ _ _ _ _ _ _ _ _ _ _ _ _ _ _ _ _ _ _ _ _ _ _ _ _ _ _ _ _ _ _ _ _ _ _ _ _ _ _ _ _ _ _ _ _ _ _ _ _ _ _ _ _ _ _ _ _ _ _ _ _ _ _ _ _ _ _ _ _ _ _ _ _ _ _ _ _ _ _ _ _ _ _ _ _ _ _ _ _ _ _ _ _ _ _ _ _ _ _ _ _ _ _ _ _ _ _ _ _ _ _ _ _ _ _ _ _ _ _ _ _ _ _ _ _ _ _ _ _ _ _ _ _ _ _ _ _ _ _ _ _ _ _ ⟨D11.out,W11.out,HY2.out,HS2.out,?_,?_,by omega,by omega,by omega,hbfb,by omega,fun i hi=>?_⟩
 · rw [hd];simpa using HCN2.out
 · rw [hd];omega
 · have:=HLC.out i hi
   by_cases e:i=s.y h
   · subst e;rw [upd_same];omega
   · rw [upd_other _ _ e];omega
theorem daK2 (hkd:kd=2):Code.wp Tryz.prog daBlk Q a w7:=by
 subst ha
 subst hkd
 conv=>arg 2;whnf
 have D7:=hiq F.d
 have A7:=hiq F.a
 have E7:=hiq F.e
 have W7:=hiq F.t
 have HKK':=hiq F.kk
 have NX:=hiq F.nx
 have HWK:=hiq F.wk
 have HWK2:=hiq (show ¬KA C B5 B8 AL Rb X gt p0 pt s.stp.k W from by rw [(stp_k s).1];exact F.wk)
 have hWW:=F.ww
 have HSK:=hiq F.sk
 have HY:=hiq F.y
 have HHx:=hiq F.hx
 have hGx:=F.gx
 have HHb:=hiq F.hb
 have hCN0:=hiq F.cn
 have hq:=F.q
 have hL0:=F.l
 have HLC:=hiq F.lc
 have HBF:=hiq F.bf
 have HE:=hiq F.he
 have hv0:=F.vv
 have hgb:=F.g
 have hjb:=F.j
 have HQ:=hiq hQ
 have HR:=hiq hR
 have hyk:=HY.out.f.ok.yk h
 have hlT:s.lkT (x:Int) h≤64:=by unfold DuS.lkT;split;omega;exact looks_n HY.out.f.t.good _ _
 have hlU:s.lkU (x:Int) h≤64:=by unfold DuS.lkU;split;exact looks_n (HY.out.f.ok.u _ hyk).1 _ _;omega
 have hLy:0≤Lc (s.y h)∧Lc (s.y h)≤100000000:=by have:=HLC.out (s.y h) (by rw [←HSK.out.1];exact hyk);omega
 have hL8:0≤L0∧L0≤100000000:=by omega
 clear hQ hR F
 have DE:=hiq (fun (K9:Nat→Prop) (w':World) (h':D1s w' D s false M mt0 K9 E w0)=>h'.del (x:Int) h hGx 1 0 0)
 have MP:=hiq (fun (w':World) (h':DM w' Rb X gt tcap p0 pt s false L0 Lc)=>h'.del hyk hL8 hLy (x:Int) hGx)
 have HY2:=hiq (show DuCt (s.del (x:Int) h) H (112+(j:Int)+1) from by
  have:=(HY.out.del (x:Int)).more (m':=112+(j:Int)+1) (by omega)
  rw [HHx.out] at this;exact this)
 have HS2:=hiq (show (s.del (x:Int) h).k=k∧(s.del (x:Int) h).gn=gn∧(s.del (x:Int) h).T.n=g from by
  obtain ⟨e1,e2,-⟩:=del_gn s (x:Int) h
  rw [e1,e2,(del_kb s (x:Int) h).1];exact HSK.out)
 obtain ⟨s2,hs2⟩:∃s2,s2=s.del (x:Int) h:=⟨_,rfl⟩
 rw [←hs2] at DE MP HY2 HS2
 obtain ⟨n,hn⟩:∃n,n=s.lkU (x:Int) h+s.lkT (x:Int) h:=⟨_,rfl⟩
 rw [←hn] at DE
 have HCN2:=hiq (hCN0.out.probes (by omega) n (by omega))
 have HN:=hiq hn
 generalize s.has (x:Int) h=bb at *
 generalize s.ent (x:Int) h=en at *
 obtain ⟨en0,en1,en2⟩:=en
 clear hn hs2
 obtain ⟨a0,a1,a2'⟩:=cells3 A7.out
 have za:=A7.out.lt
 obtain ⟨e0,e1,e2⟩:=cells3 E7.out
 have ze:=E7.out.lt
 have m5:=D7.out.b5.cell 0
 have zm5:=D7.out.b5.lt
 have m8:=D7.out.b8.cell 0
 have zm8:=D7.out.b8.lt
 have hX5:¬KC K' w0.heap.size B5:=fun e=>e.2 (D7.out.k _ (.inr (.inl rfl)))
 have hX8:¬KC K' w0.heap.size B8:=fun e=>e.2 (D7.out.k _ (.inr (.inr (.inl rfl))))
 have hXE:¬KC K' w0.heap.size EB:=fun e=>e.2 HKK'.out.2.1
 have hXA:¬KC K' w0.heap.size A:=fun e=>e.2 HKK'.out.1
 go_upto_region 39 with (fail)
 go_cut [19,20] from 165 to 175 (fun vP vB wx => ∃P9,vP = .pointer (some ⟨P9,0,none⟩)∧vB = .bool bb∧Blk wx P9 41 #[.int .u64 en0,.int .u64 en1,.int .u64 en2]∧D1s wx D s2 false M (addN mt0 1 0 0 n) K' E w0∧Chg (KC K' w0.heap.size) w7 wx∧w7.heap.size≤P9)
 case first =>
  refine wp_region_T (KC K' w0.heap.size) #[⟨0,0,2^166,32,1⟩,⟨0,0,2^167,256,1⟩,⟨2,2,2^168,2^167,2⟩,⟨0,0,2^169,4096,0⟩,⟨8,8,2^170,2^169,1⟩,⟨0,0,2^171,4096,0⟩,⟨32,32,2^172,2^171,1⟩,⟨85,127,2^173,7950568907080111875028045489976579626928273033789440,3⟩,⟨128,255,2^165,2^173,0⟩,⟨256,511,2^174,2^165,0⟩,⟨256,511,2^175,2^165,0⟩,⟨0,0,524288,0,2⟩,⟨3071,3071,0,(2^19+2^174),3⟩,⟨8191,8191,1048576,2^175,0⟩] 83 (.step 0 1 (.step 1 1 (.step 3 0 (.step 4 1 (.step 5 0 (.step 6 1 (.fork (.alt 2 (.fork (.alt 7 (.step 8 0 (.step 9 0 (.step 10 0 (.step 11 2 (.step 12 3 (.step 13 0 Plan.done)))))) (.alt 11 (.step 7 3 (.step 8 0 (.step 9 0 (.step 10 0 (.step 12 3 (.step 13 0 Plan.done)))))) Plan.none))) (.alt 11 (.step 2 2 (.step 7 3 (.step 8 0 (.step 9 0 (.step 10 0 (.step 12 3 (.step 13 0 Plan.done))))))) Plan.none))))))))) (by kernel_rfl) (by decide +kernel) (by kernel_rfl) (by kernel_rfl) (by kernel_rfl) (by decide +kernel) (fun c a d v w h=>hPan.out c a d v w h) ?_
  refine zt1 Tryz.underlying28 ?_
  try refine ztP ?_
  refine zt1 Tryz.underlying32 ?_
  try refine ztP ?_;refine ztC ?_
  refine zt1 Tryz.underlying39 ?_
  try refine ztP ?_;refine ztC ?_
  refine zt1 Tryz.underlying39 ?_
  try refine ztP ?_
  refine zt2 (fun K hK=>?_) fun K hK=>?_
  (go_wp2_with ((go_at_call 12;(with_reducible refine (probing_any _ _).mono ?_);rintro e w8 ⟨rfl,hb8⟩;(try dsimp only);(first|(have D4:Hid (D1s w8 D s false M mt0 K' E w0):=hiq (D7.out.z.drew.later hb8);have C4:Hid (Chg (KC K' w0.heap.size) w7 w8):=hiq ((Chg.refl _ _).drew.trans (Chg.of_below hb8)))|(have D4:Hid (D1s w8 D s false M mt0 (KP K' w7.heap.size) E w0):=hiq ((D1s.keepP D7.out.z.drew _).later hb8);have C4:Hid (Chg (KC K' w0.heap.size) w7 w8):=hiq (((Chg.refl _ _).drew.alloc _).trans (Chg.of_below hb8));have P4:Hid (Blk w8 w7.heap.size 41 #[.int .u64 0,.int .u64 0,.int .u64 0]):=hiq (Blk.below (Blk.new w7.drew _ _) hb8 (by simp))))));refine hkI hK (h:=?_);clear hK K)
  try refine ztP ?_
  refine zt2 (fun K hK=>?_) fun K hK=>?_
  (go_wp2_with ((go_at_call 15;((with_reducible refine (DE.out _ _ (by first|exact D4.out|exact (D1s.keepP D4.out _))).mono ?_);rintro e w9 ⟨rfl,hz9,hc9⟩;(try dsimp only);(first|(have D5:Hid (D1s w9 D s2 false M _ K' E w0):=hiq hz9;have C5:Hid (Chg (KC K' w0.heap.size) w7 w9):=hiq (C4.out.trans hc9))|(have D5:Hid (D1s w9 D s2 false M _ (KP K' w8.heap.size) E w0):=hiq hz9;have C5:Hid (Chg (KC K' w0.heap.size) w7 w9):=hiq ((C4.out.alloc _).trans (hc9.mono (fun b _ e=>⟨e.1,fun e2=>e.2 (Or.inl e2)⟩)));have hcX:Chg (KC K' w0.heap.size) _ w9:=hc9.mono (fun b _ e=>⟨e.1,fun e2=>e.2 (Or.inl e2)⟩);have P5:Hid (Blk w9 w8.heap.size 41 #[.int .u64 0,.int .u64 0,.int .u64 0]):=hiq ((Blk.new w8 _ _).chg hc9 (fun e=>e.2 (Or.inr rfl)));have q5:=cells3 P5.out;have p50:=q5.1;have p51:=q5.2.1;have p52:=q5.2.2;clear q5;have pf5:=fun j=>P5.out.frozen j;have zP5:=P5.out.lt;have hPz:w0.heap.size≤w8.heap.size∧w7.heap.size≤w8.heap.size:=⟨Nat.le_trans D7.out.z.bel.size C4.out.size,C4.out.size⟩)|(have D5:Hid (D1s w9 D s2 false M _ (KP K' w7.heap.size) E w0):=hiq hz9;have C5:Hid (Chg (KC K' w0.heap.size) w7 w9):=hiq (C4.out.trans (hc9.mono (fun b _ e=>⟨e.1,fun e2=>e.2 (Or.inl e2)⟩)));have hcX:Chg (KC K' w0.heap.size) _ w9:=hc9.mono (fun b _ e=>⟨e.1,fun e2=>e.2 (Or.inl e2)⟩);have P5:Hid (Blk w9 w7.heap.size 41 #[.int .u64 0,.int .u64 0,.int .u64 0]):=hiq (P4.out.chg hc9 (fun e=>e.2 (Or.inr rfl)));have q5:=cells3 P5.out;have p50:=q5.1;have p51:=q5.2.1;have p52:=q5.2.2;clear q5;have pf5:=fun j=>P5.out.frozen j;have zP5:=P5.out.lt;have hPz:w0.heap.size≤w7.heap.size∧w7.heap.size≤w7.heap.size:=⟨D7.out.z.bel.size,Nat.le_refl _⟩)))));refine hkI hK (h:=?_);clear hK K)
  try refine ztP ?_;refine ztC ?_;refine ztC ?_;refine ztC ?_
  refine ztD fun K hK=>?_;go_wp2_with (fail);refine hkI hK (h:=?_);clear hK K
  try refine ztP ?_
  refine ztE fun K hK=>?_;go_wp2_with (fail);refine hK.out _ _ ?_;clear hK K
  try refine ztP ?_;refine ztC ?_
  refine T_done ?_
  rotate_left 1
  (go_wp2_with (fail);refine hkI hK (h:=?_);clear hK K)
  try refine ztP ?_
  refine ztE fun K hK=>?_;go_wp2_with ((go_at_call 15;((with_reducible refine (DE.out _ _ (by first|exact D4.out|exact (D1s.keepP D4.out _))).mono ?_);rintro e w9 ⟨rfl,hz9,hc9⟩;(try dsimp only);(first|(have D5:Hid (D1s w9 D s2 false M _ K' E w0):=hiq hz9;have C5:Hid (Chg (KC K' w0.heap.size) w7 w9):=hiq (C4.out.trans hc9))|(have D5:Hid (D1s w9 D s2 false M _ (KP K' w8.heap.size) E w0):=hiq hz9;have C5:Hid (Chg (KC K' w0.heap.size) w7 w9):=hiq ((C4.out.alloc _).trans (hc9.mono (fun b _ e=>⟨e.1,fun e2=>e.2 (Or.inl e2)⟩)));have hcX:Chg (KC K' w0.heap.size) _ w9:=hc9.mono (fun b _ e=>⟨e.1,fun e2=>e.2 (Or.inl e2)⟩);have P5:Hid (Blk w9 w8.heap.size 41 #[.int .u64 0,.int .u64 0,.int .u64 0]):=hiq ((Blk.new w8 _ _).chg hc9 (fun e=>e.2 (Or.inr rfl)));have q5:=cells3 P5.out;have p50:=q5.1;have p51:=q5.2.1;have p52:=q5.2.2;clear q5;have pf5:=fun j=>P5.out.frozen j;have zP5:=P5.out.lt;have hPz:w0.heap.size≤w8.heap.size∧w7.heap.size≤w8.heap.size:=⟨Nat.le_trans D7.out.z.bel.size C4.out.size,C4.out.size⟩)|(have D5:Hid (D1s w9 D s2 false M _ (KP K' w7.heap.size) E w0):=hiq hz9;have C5:Hid (Chg (KC K' w0.heap.size) w7 w9):=hiq (C4.out.trans (hc9.mono (fun b _ e=>⟨e.1,fun e2=>e.2 (Or.inl e2)⟩)));have hcX:Chg (KC K' w0.heap.size) _ w9:=hc9.mono (fun b _ e=>⟨e.1,fun e2=>e.2 (Or.inl e2)⟩);have P5:Hid (Blk w9 w7.heap.size 41 #[.int .u64 0,.int .u64 0,.int .u64 0]):=hiq (P4.out.chg hc9 (fun e=>e.2 (Or.inr rfl)));have q5:=cells3 P5.out;have p50:=q5.1;have p51:=q5.2.1;have p52:=q5.2.2;clear q5;have pf5:=fun j=>P5.out.frozen j;have zP5:=P5.out.lt;have hPz:w0.heap.size≤w7.heap.size∧w7.heap.size≤w7.heap.size:=⟨D7.out.z.bel.size,Nat.le_refl _⟩)))));refine hK.out _ _ ?_;clear hK K
  try refine ztP ?_;refine ztC ?_;refine ztC ?_;refine ztC ?_
  refine ztE fun K hK=>?_;go_wp2_with (fail);refine hK.out _ _ ?_;clear hK K
  try refine ztP ?_;refine ztC ?_
  refine T_done ?_
  rotate_left 1
  rotate_right 2
  rotate_left 2
  (go_wp2_with (fail);refine hkI hK (h:=?_);clear hK K)
  try refine ztP ?_
  refine ztD fun K hK=>?_;go_wp2_with ((go_at_call 12;(with_reducible refine (probing_any _ _).mono ?_);rintro e w8 ⟨rfl,hb8⟩;(try dsimp only);(first|(have D4:Hid (D1s w8 D s false M mt0 K' E w0):=hiq (D7.out.z.drew.later hb8);have C4:Hid (Chg (KC K' w0.heap.size) w7 w8):=hiq ((Chg.refl _ _).drew.trans (Chg.of_below hb8)))|(have D4:Hid (D1s w8 D s false M mt0 (KP K' w7.heap.size) E w0):=hiq ((D1s.keepP D7.out.z.drew _).later hb8);have C4:Hid (Chg (KC K' w0.heap.size) w7 w8):=hiq (((Chg.refl _ _).drew.alloc _).trans (Chg.of_below hb8));have P4:Hid (Blk w8 w7.heap.size 41 #[.int .u64 0,.int .u64 0,.int .u64 0]):=hiq (Blk.below (Blk.new w7.drew _ _) hb8 (by simp))))));refine hkI hK (h:=?_);clear hK K
  try refine ztP ?_
  refine ztE fun K hK=>?_;go_wp2_with ((go_at_call 15;((with_reducible refine (DE.out _ _ (by first|exact D4.out|exact (D1s.keepP D4.out _))).mono ?_);rintro e w9 ⟨rfl,hz9,hc9⟩;(try dsimp only);(first|(have D5:Hid (D1s w9 D s2 false M _ K' E w0):=hiq hz9;have C5:Hid (Chg (KC K' w0.heap.size) w7 w9):=hiq (C4.out.trans hc9))|(have D5:Hid (D1s w9 D s2 false M _ (KP K' w8.heap.size) E w0):=hiq hz9;have C5:Hid (Chg (KC K' w0.heap.size) w7 w9):=hiq ((C4.out.alloc _).trans (hc9.mono (fun b _ e=>⟨e.1,fun e2=>e.2 (Or.inl e2)⟩)));have hcX:Chg (KC K' w0.heap.size) _ w9:=hc9.mono (fun b _ e=>⟨e.1,fun e2=>e.2 (Or.inl e2)⟩);have P5:Hid (Blk w9 w8.heap.size 41 #[.int .u64 0,.int .u64 0,.int .u64 0]):=hiq ((Blk.new w8 _ _).chg hc9 (fun e=>e.2 (Or.inr rfl)));have q5:=cells3 P5.out;have p50:=q5.1;have p51:=q5.2.1;have p52:=q5.2.2;clear q5;have pf5:=fun j=>P5.out.frozen j;have zP5:=P5.out.lt;have hPz:w0.heap.size≤w8.heap.size∧w7.heap.size≤w8.heap.size:=⟨Nat.le_trans D7.out.z.bel.size C4.out.size,C4.out.size⟩)|(have D5:Hid (D1s w9 D s2 false M _ (KP K' w7.heap.size) E w0):=hiq hz9;have C5:Hid (Chg (KC K' w0.heap.size) w7 w9):=hiq (C4.out.trans (hc9.mono (fun b _ e=>⟨e.1,fun e2=>e.2 (Or.inl e2)⟩)));have hcX:Chg (KC K' w0.heap.size) _ w9:=hc9.mono (fun b _ e=>⟨e.1,fun e2=>e.2 (Or.inl e2)⟩);have P5:Hid (Blk w9 w7.heap.size 41 #[.int .u64 0,.int .u64 0,.int .u64 0]):=hiq (P4.out.chg hc9 (fun e=>e.2 (Or.inr rfl)));have q5:=cells3 P5.out;have p50:=q5.1;have p51:=q5.2.1;have p52:=q5.2.2;clear q5;have pf5:=fun j=>P5.out.frozen j;have zP5:=P5.out.lt;have hPz:w0.heap.size≤w7.heap.size∧w7.heap.size≤w7.heap.size:=⟨D7.out.z.bel.size,Nat.le_refl _⟩)))));refine hK.out _ _ ?_;clear hK K
  try refine ztP ?_;refine ztC ?_;refine ztC ?_;refine ztC ?_
  refine ztE fun K hK=>?_;go_wp2_with (fail);refine hK.out _ _ ?_;clear hK K
  try refine ztP ?_;refine ztC ?_
  refine T_done ?_
  rotate_left 1
  rotate_right 3
  all_goals (go_wp2;go_meet)
  all_goals
   first
    | exact ⟨_,rfl,rfl,Blk.new _ _ _,D5.out.later ((Below.refl _ _).alloc (Nat.le_refl _) _),C5.out.alloc _,C5.out.size⟩
    | exact ⟨_,rfl,rfl,((P5.out.set 0 _).set 1 _).set 2 _,D1s.setP D5.out hPz.1 (((Chg.refl _ _).set1 _ _).set1 _ _ |>.set1 _ _),C5.out.trans' (((Chg.refl (fun b=>b=_) _).set1 _ _).set1 _ _ |>.set1 _ _) (fun c hc e=>absurd hc (by rw [e];exact Nat.not_lt.2 hPz.2)),hPz.2⟩
 obtain ⟨P9,rfl,rfl,hPb,hz9,hc9,hPw⟩:=hcut
 have Z9:=hiq hz9
 have C9:=hiq hc9
 have P9b:=hiq hPb
 have R9:=hiq (D7.out.keptM hc9).1
 have A9:=hiq (A7.out.chg hc9 (fun e=>e.2 HKK'.out.1))
 have E9:=hiq (E7.out.chg hc9 (fun e=>e.2 HKK'.out.2.1))
 have W9:=hiq (W7.out.chg hc9 (fun e=>e.2 HKK'.out.2.2.1))
 have HWP:=hiq (show W≠P9 from by have:=W7.out.lt;omega)
 have HPX:=hiq (show ∀b,DMX Rb X p0 pt s.k b→b≠P9 from fun b hb=>by have:=D7.out.r.lt b hb;omega)
 obtain ⟨e90,e91,e92⟩:=cells3 E9.out
 have ze9:=E9.out.lt
 obtain ⟨a90,a91,a92⟩:=cells3 A9.out
 have za9:=A9.out.lt
 clear hz9 hc9 hPw hPb a0 a1 a2' za e0 e1 e2 ze m5 zm5 m8 zm8 hX5 hX8 hXE hXA DE
 go_upto_region 41 with (go_at_call 16;(with_reducible refine (MP.out _ R9.out).mono ?_);rintro e w10 ⟨rfl,hr10,hc10⟩;(try dsimp only);have D10:=hiq (D7.out.both (s':=s2) (HS2.out.1.trans HSK.out.1.symm) Z9.out C9.out hr10 hc10);have W10:=hiq (W9.out.chg hc10 (fun e=>(NX.out _ (by rw [←HSK.out.1];exact e)).2.2 rfl));have P10:=hiq (P9b.out.chg hc10 (fun e=>HPX.out _ e rfl));have p10:=cells3 P10.out;have p100:=p10.1;have p101:=p10.2.1;have p102:=p10.2.2;have zP10:=P10.out.lt;clear p10 hr10 hc10)
 go_wp2
 have hsum:sumI (upd Lc (s.y h) (Lc (s.y h)+s.lkU (x:Int) h)) k=sumI Lc k+s.lkU (x:Int) h:=by rw [sumI_upd (by rw [←HSK.out.1];exact hyk)];omega
 have hd:0+(L0+(s.lkT (x:Int) h:Int)+sumI (upd Lc (s.y h) (Lc (s.y h)+s.lkU (x:Int) h)) k-bf)=(n:Int):=by
  have h1:=HBF.out
  rw [HSK.out.1] at h1
  rw [hsum,h1,HN.out];omega
 have hbfb:0≤bf∧bf≤1000000000:=by
  have h1:=HBF.out
  have h2:=sumI_bd (f:=Lc) (m:=10000*(j:Int)) (n:=s.k) (fun i hi=>HLC.out i (by rw [←HSK.out.1];exact hi))
  have h3:=HY.out.k12
  have h4:(s.k:Int)*(10000*(j:Int))≤2*(10000*(j:Int)):=Int.mul_le_mul_of_nonneg_right (by omega) (by omega)
  omega
 have hnn:=HN.out
 refine HQ.out s2 _ _ _ bf 0 0 0 _ _ _ _ _ _ _ _ _ _ _ _ _ _ _ _ _ _ _ _ _ _ _ _ _ _ _ _ _ _ _ _ _ _ _ _ _ _ _ _ _ _ _ _ _ _ _ _ _ _ _ _ _ _ _ _ _ _ _ _ _ _ _ _ _ _ _ _ _ _ _ _ _ _ _ _ _ _ _ _ _ _ _ _ _ _ _ _ _ _ _ _ _ _ _ _ _ _ _ _ _ _ _ _ _ _ _ _ _ _ _ _ _ _ _ _ _ _ _ _ _ _ _ _ _ _ _ _ _ _ _ _ _ _ _ _ _ _ _ _ _ _ _ _ _ _ _ _ _ _ _ _ _ _ _ _ _ _ _ _ _ _ _ _ _ _ _ _ _ _ _ _ _ _ _ _ _ _ _ _ _ _ _ _ _ _ _ _ _ _ _ _ _ _ _ _ _ _ _ _ _ _ _ _ _ _ _ _ _ _ _ _ _ _ _ _ _ _ _ _ _ _ _ _ _ _ _ _ _ _ _ _ _ _ _ _ _ _ _ _ _ _ _ _ _ _ _ _ _ _ _ _ _ _ _ _ _ _ _ _ _ _ _ _ _ _ _ _ _ _ ⟨D10.out.later ((Below.refl _ _).alloc (Nat.le_refl _) _),W10.out.alloc _,HY2.out,HS2.out,?_,?_,by omega,by omega,by omega,hbfb,by omega,fun i hi=>?_⟩
 · rw [hd];simpa using HCN2.out
 · rw [hd];omega
 · have:=HLC.out i hi
   by_cases e:i=s.y h
   · subst e;rw [upd_same];omega
   · rw [upd_other _ _ e];omega
theorem daK3 (hkd:kd=3):Code.wp Tryz.prog daBlk Q a w7:=by
 subst ha
 subst hkd
 conv=>arg 2;whnf
 have D7:=hiq F.d
 have A7:=hiq F.a
 have E7:=hiq F.e
 have W7:=hiq F.t
 have HKK':=hiq F.kk
 have NX:=hiq F.nx
 have HWK:=hiq F.wk
 have HWK2:=hiq (show ¬KA C B5 B8 AL Rb X gt p0 pt s.stp.k W from by rw [(stp_k s).1];exact F.wk)
 have hWW:=F.ww
 have HSK:=hiq F.sk
 have HY:=hiq F.y
 have HHx:=hiq F.hx
 have hGx:=F.gx
 have HHb:=hiq F.hb
 have hCN0:=hiq F.cn
 have hq:=F.q
 have hL0:=F.l
 have HLC:=hiq F.lc
 have HBF:=hiq F.bf
 have HE:=hiq F.he
 have hv0:=F.vv
 have hgb:=F.g
 have hjb:=F.j
 have HQ:=hiq hQ
 have HR:=hiq hR
 have hyk:=HY.out.f.ok.yk h
 have hlT:s.lkT (x:Int) h≤64:=by unfold DuS.lkT;split;omega;exact looks_n HY.out.f.t.good _ _
 have hlU:s.lkU (x:Int) h≤64:=by unfold DuS.lkU;split;exact looks_n (HY.out.f.ok.u _ hyk).1 _ _;omega
 have hLy:0≤Lc (s.y h)∧Lc (s.y h)≤100000000:=by have:=HLC.out (s.y h) (by rw [←HSK.out.1];exact hyk);omega
 have hL8:0≤L0∧L0≤100000000:=by omega
 clear hQ hR F
 have DE:=hiq (fun (K9:Nat→Prop) (w':World) (h':D1s w' D s false M mt0 K9 E w0)=>h'.find (x:Int) h hGx 1 0 0)
 have MP:=hiq (fun (w':World) (h':DM w' Rb X gt tcap p0 pt s false L0 Lc)=>h'.find hyk ⟨hL8.1,by omega⟩ ⟨hLy.1,by omega⟩ (x:Int) hGx)
 have HY2:=hiq (HY.out.more (m':=112+(j:Int)+1) (by omega))
 have HS2:=hiq HSK.out
 have hat:=atI_has s (x:Int) h
 obtain ⟨s2,hs2⟩:=exq s
 obtain ⟨n,hn⟩:∃n,n=s.lkU (x:Int) h+s.lkT (x:Int) h:=⟨_,rfl⟩
 rw [←hn] at DE
 have HCN2:=hiq (hCN0.out.probes (by omega) n (by omega))
 have HN:=hiq hn
 generalize s.has (x:Int) h=bb at *
 generalize s.ent (x:Int) h=en at *
 generalize s.atI (x:Int) h=ati at *
 obtain ⟨en0,en1,en2⟩:=en
 have hat2:decide (0≤ati)=bb:=hat
 have hs20:=hiq hs2
 have DEs:Hid (∀ (K9:Nat→Prop) (w':World) (h':D1s w' D s false M mt0 K9 E w0),Calls Tryz.prog 17 #[.pointer (some ⟨D,0,none⟩),.agg #[.pointer (some ⟨M,0,none⟩),.int .i64 1,.int .i64 0,.int .i64 0],.int .u64 (x:Int),.int .u64 (h:Int)] w' fun e w''=>e = .returned (.tuple #[.agg #[.int .u64 en0,.int .u64 en1,.int .u64 en2],.bool bb])∧D1s w'' D s2 false M (addN mt0 1 0 0 n) K9 E w0∧Chg (KC K9 w0.heap.size) w' w''):=hiq (by rw [hs2];exact DE.out)
 clear DE
 have DE:=DEs
 have MPs:Hid (∀ (w':World) (h':DM w' Rb X gt tcap p0 pt s false L0 Lc),Calls Tryz.prog 18 #[.pointer (some ⟨Rb,0,none⟩),.int .u64 (x:Int),.int .u64 (h:Int)] w' fun e w''=>e = .returned (.tuple #[.agg #[.int .u64 en0,.int .u64 en1,.int .u64 en2],.int .i64 ati])∧DM w'' Rb X gt tcap p0 pt s2 false (L0+s.lkT (x:Int) h) (upd Lc (s.y h) (Lc (s.y h)+s.lkU (x:Int) h))∧Chg (DMX Rb X p0 pt s.k) w' w''):=hiq (by rw [hs2];exact MP.out)
 clear MP
 have MP:=MPs
 have HY2s:Hid (DuCt s2 H (112+(j:Int)+1)):=hiq (by rw [hs2];exact HY2.out)
 have HS2s:Hid (s2.k=k∧s2.gn=gn∧s2.T.n=g):=hiq (by rw [hs2];exact HS2.out)
 clear HY2 HS2
 have HY2:=HY2s
 have HS2:=HS2s
 clear hn hs2 DEs MPs HY2s HS2s
 obtain ⟨a0,a1,a2'⟩:=cells3 A7.out
 have za:=A7.out.lt
 obtain ⟨e0,e1,e2⟩:=cells3 E7.out
 have ze:=E7.out.lt
 have m5:=D7.out.b5.cell 0
 have zm5:=D7.out.b5.lt
 have m8:=D7.out.b8.cell 0
 have zm8:=D7.out.b8.lt
 have hX5:¬KC K' w0.heap.size B5:=fun e=>e.2 (D7.out.k _ (.inr (.inl rfl)))
 have hX8:¬KC K' w0.heap.size B8:=fun e=>e.2 (D7.out.k _ (.inr (.inr (.inl rfl))))
 have hXE:¬KC K' w0.heap.size EB:=fun e=>e.2 HKK'.out.2.1
 have hXA:¬KC K' w0.heap.size A:=fun e=>e.2 HKK'.out.1
 go_upto_region 44 with (fail)
 go_cut [23,24] from 195 to 205 (fun vP vB wx => ∃P9,vP = .pointer (some ⟨P9,0,none⟩)∧vB = .bool bb∧Blk wx P9 41 #[.int .u64 en0,.int .u64 en1,.int .u64 en2]∧D1s wx D s2 false M (addN mt0 1 0 0 n) K' E w0∧Chg (KC K' w0.heap.size) w7 wx∧w7.heap.size≤P9)
 case first =>
  refine wp_region_T (KC K' w0.heap.size) #[⟨0,0,2^196,32,1⟩,⟨0,0,2^197,256,1⟩,⟨2,2,2^198,2^197,2⟩,⟨0,0,2^199,4096,0⟩,⟨8,8,2^200,2^199,1⟩,⟨0,0,2^201,4096,0⟩,⟨32,32,2^202,2^201,1⟩,⟨85,127,2^203,8536858360125885838816673615562426325899203404471086937538560,3⟩,⟨128,255,2^195,2^203,0⟩,⟨256,511,2^204,2^195,0⟩,⟨256,511,2^205,2^195,0⟩,⟨0,0,8388608,0,2⟩,⟨3071,3071,0,(2^23+2^204),3⟩,⟨8191,8191,16777216,2^205,0⟩] 83 (.step 0 1 (.step 1 1 (.step 3 0 (.step 4 1 (.step 5 0 (.step 6 1 (.fork (.alt 2 (.fork (.alt 7 (.step 8 0 (.step 9 0 (.step 10 0 (.step 11 2 (.step 12 3 (.step 13 0 Plan.done)))))) (.alt 11 (.step 7 3 (.step 8 0 (.step 9 0 (.step 10 0 (.step 12 3 (.step 13 0 Plan.done)))))) Plan.none))) (.alt 11 (.step 2 2 (.step 7 3 (.step 8 0 (.step 9 0 (.step 10 0 (.step 12 3 (.step 13 0 Plan.done))))))) Plan.none))))))))) (by kernel_rfl) (by decide +kernel) (by kernel_rfl) (by kernel_rfl) (by kernel_rfl) (by decide +kernel) (fun c a d v w h=>hPan.out c a d v w h) ?_
  refine zt1 Tryz.underlying28 ?_
  try refine ztP ?_
  refine zt1 Tryz.underlying32 ?_
  try refine ztP ?_;refine ztC ?_
  refine zt1 Tryz.underlying39 ?_
  try refine ztP ?_;refine ztC ?_
  refine zt1 Tryz.underlying39 ?_
  try refine ztP ?_
  refine zt2 (fun K hK=>?_) fun K hK=>?_
  (go_wp2_with ((go_at_call 12;(with_reducible refine (probing_any _ _).mono ?_);rintro e w8 ⟨rfl,hb8⟩;(try dsimp only);(first|(have D4:Hid (D1s w8 D s false M mt0 K' E w0):=hiq (D7.out.z.drew.later hb8);have C4:Hid (Chg (KC K' w0.heap.size) w7 w8):=hiq ((Chg.refl _ _).drew.trans (Chg.of_below hb8)))|(have D4:Hid (D1s w8 D s false M mt0 (KP K' w7.heap.size) E w0):=hiq ((D1s.keepP D7.out.z.drew _).later hb8);have C4:Hid (Chg (KC K' w0.heap.size) w7 w8):=hiq (((Chg.refl _ _).drew.alloc _).trans (Chg.of_below hb8));have P4:Hid (Blk w8 w7.heap.size 41 #[.int .u64 0,.int .u64 0,.int .u64 0]):=hiq (Blk.below (Blk.new w7.drew _ _) hb8 (by simp))))));refine hkI hK (h:=?_);clear hK K)
  try refine ztP ?_
  refine zt2 (fun K hK=>?_) fun K hK=>?_
  (go_wp2_with ((go_at_call 17;((with_reducible refine (DE.out _ _ (by first|exact D4.out|exact (D1s.keepP D4.out _))).mono ?_);rintro e w9 ⟨rfl,hz9,hc9⟩;(try dsimp only);(first|(have D5:Hid (D1s w9 D s2 false M _ K' E w0):=hiq hz9;have C5:Hid (Chg (KC K' w0.heap.size) w7 w9):=hiq (C4.out.trans hc9))|(have D5:Hid (D1s w9 D s2 false M _ (KP K' w8.heap.size) E w0):=hiq hz9;have C5:Hid (Chg (KC K' w0.heap.size) w7 w9):=hiq ((C4.out.alloc _).trans (hc9.mono (fun b _ e=>⟨e.1,fun e2=>e.2 (Or.inl e2)⟩)));have hcX:Chg (KC K' w0.heap.size) _ w9:=hc9.mono (fun b _ e=>⟨e.1,fun e2=>e.2 (Or.inl e2)⟩);have P5:Hid (Blk w9 w8.heap.size 41 #[.int .u64 0,.int .u64 0,.int .u64 0]):=hiq ((Blk.new w8 _ _).chg hc9 (fun e=>e.2 (Or.inr rfl)));have q5:=cells3 P5.out;have p50:=q5.1;have p51:=q5.2.1;have p52:=q5.2.2;clear q5;have pf5:=fun j=>P5.out.frozen j;have zP5:=P5.out.lt;have hPz:w0.heap.size≤w8.heap.size∧w7.heap.size≤w8.heap.size:=⟨Nat.le_trans D7.out.z.bel.size C4.out.size,C4.out.size⟩)|(have D5:Hid (D1s w9 D s2 false M _ (KP K' w7.heap.size) E w0):=hiq hz9;have C5:Hid (Chg (KC K' w0.heap.size) w7 w9):=hiq (C4.out.trans (hc9.mono (fun b _ e=>⟨e.1,fun e2=>e.2 (Or.inl e2)⟩)));have hcX:Chg (KC K' w0.heap.size) _ w9:=hc9.mono (fun b _ e=>⟨e.1,fun e2=>e.2 (Or.inl e2)⟩);have P5:Hid (Blk w9 w7.heap.size 41 #[.int .u64 0,.int .u64 0,.int .u64 0]):=hiq (P4.out.chg hc9 (fun e=>e.2 (Or.inr rfl)));have q5:=cells3 P5.out;have p50:=q5.1;have p51:=q5.2.1;have p52:=q5.2.2;clear q5;have pf5:=fun j=>P5.out.frozen j;have zP5:=P5.out.lt;have hPz:w0.heap.size≤w7.heap.size∧w7.heap.size≤w7.heap.size:=⟨D7.out.z.bel.size,Nat.le_refl _⟩)))));refine hkI hK (h:=?_);clear hK K)
  try refine ztP ?_;refine ztC ?_;refine ztC ?_;refine ztC ?_
  refine ztD fun K hK=>?_;go_wp2_with (fail);refine hkI hK (h:=?_);clear hK K
  try refine ztP ?_
  refine ztE fun K hK=>?_;go_wp2_with (fail);refine hK.out _ _ ?_;clear hK K
  try refine ztP ?_;refine ztC ?_
  refine T_done ?_
  rotate_left 1
  (go_wp2_with (fail);refine hkI hK (h:=?_);clear hK K)
  try refine ztP ?_
  refine ztE fun K hK=>?_;go_wp2_with ((go_at_call 17;((with_reducible refine (DE.out _ _ (by first|exact D4.out|exact (D1s.keepP D4.out _))).mono ?_);rintro e w9 ⟨rfl,hz9,hc9⟩;(try dsimp only);(first|(have D5:Hid (D1s w9 D s2 false M _ K' E w0):=hiq hz9;have C5:Hid (Chg (KC K' w0.heap.size) w7 w9):=hiq (C4.out.trans hc9))|(have D5:Hid (D1s w9 D s2 false M _ (KP K' w8.heap.size) E w0):=hiq hz9;have C5:Hid (Chg (KC K' w0.heap.size) w7 w9):=hiq ((C4.out.alloc _).trans (hc9.mono (fun b _ e=>⟨e.1,fun e2=>e.2 (Or.inl e2)⟩)));have hcX:Chg (KC K' w0.heap.size) _ w9:=hc9.mono (fun b _ e=>⟨e.1,fun e2=>e.2 (Or.inl e2)⟩);have P5:Hid (Blk w9 w8.heap.size 41 #[.int .u64 0,.int .u64 0,.int .u64 0]):=hiq ((Blk.new w8 _ _).chg hc9 (fun e=>e.2 (Or.inr rfl)));have q5:=cells3 P5.out;have p50:=q5.1;have p51:=q5.2.1;have p52:=q5.2.2;clear q5;have pf5:=fun j=>P5.out.frozen j;have zP5:=P5.out.lt;have hPz:w0.heap.size≤w8.heap.size∧w7.heap.size≤w8.heap.size:=⟨Nat.le_trans D7.out.z.bel.size C4.out.size,C4.out.size⟩)|(have D5:Hid (D1s w9 D s2 false M _ (KP K' w7.heap.size) E w0):=hiq hz9;have C5:Hid (Chg (KC K' w0.heap.size) w7 w9):=hiq (C4.out.trans (hc9.mono (fun b _ e=>⟨e.1,fun e2=>e.2 (Or.inl e2)⟩)));have hcX:Chg (KC K' w0.heap.size) _ w9:=hc9.mono (fun b _ e=>⟨e.1,fun e2=>e.2 (Or.inl e2)⟩);have P5:Hid (Blk w9 w7.heap.size 41 #[.int .u64 0,.int .u64 0,.int .u64 0]):=hiq (P4.out.chg hc9 (fun e=>e.2 (Or.inr rfl)));have q5:=cells3 P5.out;have p50:=q5.1;have p51:=q5.2.1;have p52:=q5.2.2;clear q5;have pf5:=fun j=>P5.out.frozen j;have zP5:=P5.out.lt;have hPz:w0.heap.size≤w7.heap.size∧w7.heap.size≤w7.heap.size:=⟨D7.out.z.bel.size,Nat.le_refl _⟩)))));refine hK.out _ _ ?_;clear hK K
  try refine ztP ?_;refine ztC ?_;refine ztC ?_;refine ztC ?_
  refine ztE fun K hK=>?_;go_wp2_with (fail);refine hK.out _ _ ?_;clear hK K
  try refine ztP ?_;refine ztC ?_
  refine T_done ?_
  rotate_left 1
  rotate_right 2
  rotate_left 2
  (go_wp2_with (fail);refine hkI hK (h:=?_);clear hK K)
  try refine ztP ?_
  refine ztD fun K hK=>?_;go_wp2_with ((go_at_call 12;(with_reducible refine (probing_any _ _).mono ?_);rintro e w8 ⟨rfl,hb8⟩;(try dsimp only);(first|(have D4:Hid (D1s w8 D s false M mt0 K' E w0):=hiq (D7.out.z.drew.later hb8);have C4:Hid (Chg (KC K' w0.heap.size) w7 w8):=hiq ((Chg.refl _ _).drew.trans (Chg.of_below hb8)))|(have D4:Hid (D1s w8 D s false M mt0 (KP K' w7.heap.size) E w0):=hiq ((D1s.keepP D7.out.z.drew _).later hb8);have C4:Hid (Chg (KC K' w0.heap.size) w7 w8):=hiq (((Chg.refl _ _).drew.alloc _).trans (Chg.of_below hb8));have P4:Hid (Blk w8 w7.heap.size 41 #[.int .u64 0,.int .u64 0,.int .u64 0]):=hiq (Blk.below (Blk.new w7.drew _ _) hb8 (by simp))))));refine hkI hK (h:=?_);clear hK K
  try refine ztP ?_
  refine ztE fun K hK=>?_;go_wp2_with ((go_at_call 17;((with_reducible refine (DE.out _ _ (by first|exact D4.out|exact (D1s.keepP D4.out _))).mono ?_);rintro e w9 ⟨rfl,hz9,hc9⟩;(try dsimp only);(first|(have D5:Hid (D1s w9 D s2 false M _ K' E w0):=hiq hz9;have C5:Hid (Chg (KC K' w0.heap.size) w7 w9):=hiq (C4.out.trans hc9))|(have D5:Hid (D1s w9 D s2 false M _ (KP K' w8.heap.size) E w0):=hiq hz9;have C5:Hid (Chg (KC K' w0.heap.size) w7 w9):=hiq ((C4.out.alloc _).trans (hc9.mono (fun b _ e=>⟨e.1,fun e2=>e.2 (Or.inl e2)⟩)));have hcX:Chg (KC K' w0.heap.size) _ w9:=hc9.mono (fun b _ e=>⟨e.1,fun e2=>e.2 (Or.inl e2)⟩);have P5:Hid (Blk w9 w8.heap.size 41 #[.int .u64 0,.int .u64 0,.int .u64 0]):=hiq ((Blk.new w8 _ _).chg hc9 (fun e=>e.2 (Or.inr rfl)));have q5:=cells3 P5.out;have p50:=q5.1;have p51:=q5.2.1;have p52:=q5.2.2;clear q5;have pf5:=fun j=>P5.out.frozen j;have zP5:=P5.out.lt;have hPz:w0.heap.size≤w8.heap.size∧w7.heap.size≤w8.heap.size:=⟨Nat.le_trans D7.out.z.bel.size C4.out.size,C4.out.size⟩)|(have D5:Hid (D1s w9 D s2 false M _ (KP K' w7.heap.size) E w0):=hiq hz9;have C5:Hid (Chg (KC K' w0.heap.size) w7 w9):=hiq (C4.out.trans (hc9.mono (fun b _ e=>⟨e.1,fun e2=>e.2 (Or.inl e2)⟩)));have hcX:Chg (KC K' w0.heap.size) _ w9:=hc9.mono (fun b _ e=>⟨e.1,fun e2=>e.2 (Or.inl e2)⟩);have P5:Hid (Blk w9 w7.heap.size 41 #[.int .u64 0,.int .u64 0,.int .u64 0]):=hiq (P4.out.chg hc9 (fun e=>e.2 (Or.inr rfl)));have q5:=cells3 P5.out;have p50:=q5.1;have p51:=q5.2.1;have p52:=q5.2.2;clear q5;have pf5:=fun j=>P5.out.frozen j;have zP5:=P5.out.lt;have hPz:w0.heap.size≤w7.heap.size∧w7.heap.size≤w7.heap.size:=⟨D7.out.z.bel.size,Nat.le_refl _⟩)))));refine hK.out _ _ ?_;clear hK K
  try refine ztP ?_;refine ztC ?_;refine ztC ?_;refine ztC ?_
  refine ztE fun K hK=>?_;go_wp2_with (fail);refine hK.out _ _ ?_;clear hK K
  try refine ztP ?_;refine ztC ?_
  refine T_done ?_
  rotate_left 1
  rotate_right 3
  all_goals (go_wp2;go_meet)
  all_goals
   first
    | exact ⟨_,rfl,rfl,Blk.new _ _ _,D5.out.later ((Below.refl _ _).alloc (Nat.le_refl _) _),C5.out.alloc _,C5.out.size⟩
    | exact ⟨_,rfl,rfl,((P5.out.set 0 _).set 1 _).set 2 _,D1s.setP D5.out hPz.1 (((Chg.refl _ _).set1 _ _).set1 _ _ |>.set1 _ _),C5.out.trans' (((Chg.refl (fun b=>b=_) _).set1 _ _).set1 _ _ |>.set1 _ _) (fun c hc e=>absurd hc (by rw [e];exact Nat.not_lt.2 hPz.2)),hPz.2⟩
 obtain ⟨P9,rfl,rfl,hPb,hz9,hc9,hPw⟩:=hcut
 have Z9:=hiq hz9
 have C9:=hiq hc9
 have P9b:=hiq hPb
 have R9:=hiq (D7.out.keptM hc9).1
 have A9:=hiq (A7.out.chg hc9 (fun e=>e.2 HKK'.out.1))
 have E9:=hiq (E7.out.chg hc9 (fun e=>e.2 HKK'.out.2.1))
 have W9:=hiq (W7.out.chg hc9 (fun e=>e.2 HKK'.out.2.2.1))
 have HWP:=hiq (show W≠P9 from by have:=W7.out.lt;omega)
 have HPX:=hiq (show ∀b,DMX Rb X p0 pt s.k b→b≠P9 from fun b hb=>by have:=D7.out.r.lt b hb;omega)
 obtain ⟨e90,e91,e92⟩:=cells3 E9.out
 have ze9:=E9.out.lt
 obtain ⟨a90,a91,a92⟩:=cells3 A9.out
 have za9:=A9.out.lt
 clear hz9 hc9 hPw hPb a0 a1 a2' za e0 e1 e2 ze m5 zm5 m8 zm8 hX5 hX8 hXE hXA DE
 go_upto_region 46 with (go_at_call 18;(with_reducible refine (MP.out _ R9.out).mono ?_);rintro e w10 ⟨rfl,hr10,hc10⟩;(try dsimp only);have D10:=hiq (D7.out.both (s':=s2) (HS2.out.1.trans HSK.out.1.symm) Z9.out C9.out hr10 hc10);have W10:=hiq (W9.out.chg hc10 (fun e=>(NX.out _ (by rw [←HSK.out.1];exact e)).2.2 rfl));have P10:=hiq (P9b.out.chg hc10 (fun e=>HPX.out _ e rfl));have p10:=cells3 P10.out;have p100:=p10.1;have p101:=p10.2.1;have p102:=p10.2.2;have zP10:=P10.out.lt;clear p10 hr10 hc10)
 go_wp2
 have hsum:sumI (upd Lc (s.y h) (Lc (s.y h)+s.lkU (x:Int) h)) k=sumI Lc k+s.lkU (x:Int) h:=by rw [sumI_upd (by rw [←HSK.out.1];exact hyk)];omega
 have hd:0+(L0+(s.lkT (x:Int) h:Int)+sumI (upd Lc (s.y h) (Lc (s.y h)+s.lkU (x:Int) h)) k-bf)=(n:Int):=by
  have h1:=HBF.out
  rw [HSK.out.1] at h1
  rw [hsum,h1,HN.out];omega
 have hbfb:0≤bf∧bf≤1000000000:=by
  have h1:=HBF.out
  have h2:=sumI_bd (f:=Lc) (m:=10000*(j:Int)) (n:=s.k) (fun i hi=>HLC.out i (by rw [←HSK.out.1];exact hi))
  have h3:=HY.out.k12
  have h4:(s.k:Int)*(10000*(j:Int))≤2*(10000*(j:Int)):=Int.mul_le_mul_of_nonneg_right (by omega) (by omega)
  omega
 have hnn:=HN.out
 refine HQ.out s2 _ _ _ bf 0 0 0 _ _ _ _ _ _ _ _ _ _ _ _ _ _ _ _ _ _ _ _ _ _ _ _ _ _ _ _ _ _ _ _ _ _ _ _ _ _ _ _ _ _ _ _ _ _ _ _ _ _ _ _ _ _ _ _ _ _ _ _ _ _ _ _ _ _ _ _ _ _ _ _ _ _ _ _ _ _ _ _ _ _ _ _ _ _ _ _ _ _ _ _ _ _ _ _ _ _ _ _ _ _ _ _ _ _ _ _ _ _ _ _ _ _ _ _ _ _ _ _ _ _ _ _ _ _ _ _ _ _ _ _ _ _ _ _ _ _ _ _ _ _ _ _ _ _ _ _ _ _ _ _ _ _ _ _ _ _ _ _ _ _ _ _ _ _ _ _ _ _ _ _ _ _ _ _ _ _ _ _ _ _ _ _ _ _ _ _ _ _ _ _ _ _ _ _ _ _ _ _ _ _ _ _ _ _ _ _ _ _ _ _ _ _ _ _ _ _ _ _ _ _ _ _ _ _ _ _ _ _ _ _ _ _ _ _ _ _ _ _ _ _ _ _ _ _ _ _ _ _ _ _ _ _ _ _ _ _ _ _ _ _ _ _ _ _ _ _ _ _ ⟨D10.out.later ((Below.refl _ _).alloc (Nat.le_refl _) _),W10.out.alloc _,HY2.out,HS2.out,?_,?_,by omega,by omega,by omega,hbfb,by omega,fun i hi=>?_⟩
 · rw [hd];simpa using HCN2.out
 · rw [hd];omega
 · have:=HLC.out i hi
   by_cases e:i=s.y h
   · subst e;rw [upd_same];omega
   · rw [upd_other _ _ e];omega
theorem daK4 (hkd:kd=4):Code.wp Tryz.prog daBlk Q a w7:=by
 subst ha
 subst hkd
 conv=>arg 2;whnf
 have D7:=hiq F.d
 have A7:=hiq F.a
 have E7:=hiq F.e
 have W7:=hiq F.t
 have HKK':=hiq F.kk
 have NX:=hiq F.nx
 have HWK:=hiq F.wk
 have HWK2:=hiq (show ¬KA C B5 B8 AL Rb X gt p0 pt s.stp.k W from by rw [(stp_k s).1];exact F.wk)
 have hWW:=F.ww
 have HSK:=hiq F.sk
 have HY:=hiq F.y
 have HHx:=hiq F.hx
 have hGx:=F.gx
 have HHb:=hiq F.hb
 have hCN0:=hiq F.cn
 have hq:=F.q
 have hL0:=F.l
 have HLC:=hiq F.lc
 have HBF:=hiq F.bf
 have HE:=hiq F.he
 have hv0:=F.vv
 have hgb:=F.g
 have hjb:=F.j
 have HQ:=hiq hQ
 have HR:=hiq hR
 have hyk:=HY.out.f.ok.yk h
 have hlT:s.lkT (x:Int) h≤64:=by unfold DuS.lkT;split;omega;exact looks_n HY.out.f.t.good _ _
 have hlU:s.lkU (x:Int) h≤64:=by unfold DuS.lkU;split;exact looks_n (HY.out.f.ok.u _ hyk).1 _ _;omega
 have hLy:0≤Lc (s.y h)∧Lc (s.y h)≤100000000:=by have:=HLC.out (s.y h) (by rw [←HSK.out.1];exact hyk);omega
 have hL8:0≤L0∧L0≤100000000:=by omega
 clear hQ hR F
 have hle:=HY.out.len
 have hk12:=HY.out.k12
 have hnb:=HY.out.f.ok.t.bounds
 have AA:=hiq (fun (w':World) (h':DM w' Rb X gt tcap p0 pt s false L0 Lc)=>h'.all HY.out.f.ok)
 have GM:=hiq (fun (w':World) (h':DM w' Rb X gt tcap p0 pt s false L0 Lc)=>h'.groups HY.out.f.ok)
 have hgl:s.glook≤200:=by
  have h1:=HSK.out
  have h2:s.k*s.gn≤2*s.gn:=Nat.mul_le_mul_right _ (by omega)
  unfold DuS.glook DuS.groups
  split <;> omega
 have DE0:=hiq (fun (K9:Nat→Prop) (w':World) (h':D1s w' D s false M mt0 K9 E w0)=>h'.least vv (h:Int) 1 0 0)
 rw [HY.out.f.least_eq ⟨vv,0,(h:Int)⟩,glook_nS HY.out.f.ok] at DE0
 generalize s.glook=n at *
 generalize s.all s.k=l at *
 have LP:=hiq (fun (v:Value) (base:Nat) (w':World) (hr:w'.ownsRow base 41 3 v l.length (entV l))=>rleast_any v l base (h:Int) vv w' hr (by omega))
 generalize TabS.leastL l ⟨vv,0,(h:Int)⟩=r at *
 obtain ⟨⟨en0,en1,en2⟩,bb⟩:=r
 have HCN2:=hiq (hCN0.out.probes (by omega) n (by omega))
 obtain ⟨s2,hs2⟩:=exq s
 have DE:Hid (∀ (K9:Nat→Prop) (w':World) (h':D1s w' D s false M mt0 K9 E w0),Calls Tryz.prog 19 #[.pointer (some ⟨D,0,none⟩),.agg #[.pointer (some ⟨M,0,none⟩),.int .i64 1,.int .i64 0,.int .i64 0],.int .u64 (h:Int),.int .u64 vv] w' fun e w''=>e = .returned (.tuple #[.agg #[.int .u64 en0,.int .u64 en1,.int .u64 en2],.bool bb])∧D1s w'' D s2 false M (addN mt0 1 0 0 n) K9 E w0∧Chg (KC K9 w0.heap.size) w' w''):=hiq (by rw [hs2];exact DE0.out)
 have HS20:=hiq hs2
 have HNB:=hiq hgl
 clear hs2 DE0 hle hk12 hnb hgl
 obtain ⟨a0,a1,a2'⟩:=cells3 A7.out
 have za:=A7.out.lt
 obtain ⟨e0,e1,e2⟩:=cells3 E7.out
 have ze:=E7.out.lt
 have m5:=D7.out.b5.cell 0
 have zm5:=D7.out.b5.lt
 have m8:=D7.out.b8.cell 0
 have zm8:=D7.out.b8.lt
 have hX5:¬KC K' w0.heap.size B5:=fun e=>e.2 (D7.out.k _ (.inr (.inl rfl)))
 have hX8:¬KC K' w0.heap.size B8:=fun e=>e.2 (D7.out.k _ (.inr (.inr (.inl rfl))))
 have hXE:¬KC K' w0.heap.size EB:=fun e=>e.2 HKK'.out.2.1
 have hXA:¬KC K' w0.heap.size A:=fun e=>e.2 HKK'.out.1
 go_upto_region 49 with (fail)
 go_cut [27,28] from 226 to 237 (fun vP vB wx => ∃P9,vP = .pointer (some ⟨P9,0,none⟩)∧vB = .bool bb∧Blk wx P9 41 #[.int .u64 en0,.int .u64 en1,.int .u64 en2]∧D1s wx D s2 false M (addN mt0 1 0 0 n) K' E w0∧Chg (KC K' w0.heap.size) w7 wx∧w7.heap.size≤P9)
 case first =>
  refine wp_region_T (KC K' w0.heap.size) #[⟨0,0,2^227,32,1⟩,⟨0,0,2^228,256,1⟩,⟨2,2,2^229,2^228,2⟩,⟨0,0,2^230,4096,0⟩,⟨8,8,2^231,2^230,1⟩,⟨0,0,2^232,2048,0⟩,⟨32,32,2^233,2^232,1⟩,⟨64,96,2^234,2^233,0⟩,⟨149,255,2^235,32136256427243562635243081983727399762975476151668362397475503417065472,3⟩,⟨256,511,2^226,2^235,0⟩,⟨512,1023,2^236,2^226,0⟩,⟨512,1023,2^237,2^226,0⟩,⟨0,0,134217728,0,2⟩,⟨6143,6143,0,(2^27+2^236),3⟩,⟨16383,16383,268435456,2^237,0⟩] 83 (.step 0 1 (.step 1 1 (.step 3 0 (.step 4 1 (.step 5 0 (.step 6 1 (.step 7 0 (.fork (.alt 2 (.fork (.alt 8 (.step 9 0 (.step 10 0 (.step 11 0 (.step 12 2 (.step 13 3 (.step 14 0 Plan.done)))))) (.alt 12 (.step 8 3 (.step 9 0 (.step 10 0 (.step 11 0 (.step 13 3 (.step 14 0 Plan.done)))))) Plan.none))) (.alt 12 (.step 2 2 (.step 8 3 (.step 9 0 (.step 10 0 (.step 11 0 (.step 13 3 (.step 14 0 Plan.done))))))) Plan.none)))))))))) (by kernel_rfl) (by decide +kernel) (by kernel_rfl) (by kernel_rfl) (by kernel_rfl) (by decide +kernel) (fun c a d v w h=>hPan.out c a d v w h) ?_
  refine zt1 Tryz.underlying28 ?_
  try refine ztP ?_
  refine zt1 Tryz.underlying32 ?_
  try refine ztP ?_;refine ztC ?_
  refine zt1 Tryz.underlying39 ?_
  try refine ztP ?_;refine ztC ?_
  refine zt1 Tryz.underlying3 ?_
  try refine ztP ?_;refine ztC ?_
  refine zt2 (fun K hK=>?_) fun K hK=>?_
  (go_wp2_with ((go_at_call 12;(with_reducible refine (probing_any _ _).mono ?_);rintro e w8 ⟨rfl,hb8⟩;(try dsimp only);(first|(have D4:Hid (D1s w8 D s false M mt0 K' E w0):=hiq (D7.out.z.drew.later hb8);have C4:Hid (Chg (KC K' w0.heap.size) w7 w8):=hiq ((Chg.refl _ _).drew.trans (Chg.of_below hb8)))|(have D4:Hid (D1s w8 D s false M mt0 (KP K' w7.heap.size) E w0):=hiq ((D1s.keepP D7.out.z.drew _).later hb8);have C4:Hid (Chg (KC K' w0.heap.size) w7 w8):=hiq (((Chg.refl _ _).drew.alloc _).trans (Chg.of_below hb8));have P4:Hid (Blk w8 w7.heap.size 41 #[.int .u64 0,.int .u64 0,.int .u64 0]):=hiq (Blk.below (Blk.new w7.drew _ _) hb8 (by simp))))));refine hkI hK (h:=?_);clear hK K)
  try refine ztP ?_
  refine zt2 (fun K hK=>?_) fun K hK=>?_
  (go_wp2_with ((go_at_call 19;((with_reducible refine (DE.out _ _ (by first|exact D4.out|exact (D1s.keepP D4.out _))).mono ?_);rintro e w9 ⟨rfl,hz9,hc9⟩;(try dsimp only);(first|(have D5:Hid (D1s w9 D s2 false M _ K' E w0):=hiq hz9;have C5:Hid (Chg (KC K' w0.heap.size) w7 w9):=hiq (C4.out.trans hc9))|(have D5:Hid (D1s w9 D s2 false M _ (KP K' w8.heap.size) E w0):=hiq hz9;have C5:Hid (Chg (KC K' w0.heap.size) w7 w9):=hiq ((C4.out.alloc _).trans (hc9.mono (fun b _ e=>⟨e.1,fun e2=>e.2 (Or.inl e2)⟩)));have hcX:Chg (KC K' w0.heap.size) _ w9:=hc9.mono (fun b _ e=>⟨e.1,fun e2=>e.2 (Or.inl e2)⟩);have P5:Hid (Blk w9 w8.heap.size 41 #[.int .u64 0,.int .u64 0,.int .u64 0]):=hiq ((Blk.new w8 _ _).chg hc9 (fun e=>e.2 (Or.inr rfl)));have q5:=cells3 P5.out;have p50:=q5.1;have p51:=q5.2.1;have p52:=q5.2.2;clear q5;have pf5:=fun j=>P5.out.frozen j;have zP5:=P5.out.lt;have hPz:w0.heap.size≤w8.heap.size∧w7.heap.size≤w8.heap.size:=⟨Nat.le_trans D7.out.z.bel.size C4.out.size,C4.out.size⟩)|(have D5:Hid (D1s w9 D s2 false M _ (KP K' w7.heap.size) E w0):=hiq hz9;have C5:Hid (Chg (KC K' w0.heap.size) w7 w9):=hiq (C4.out.trans (hc9.mono (fun b _ e=>⟨e.1,fun e2=>e.2 (Or.inl e2)⟩)));have hcX:Chg (KC K' w0.heap.size) _ w9:=hc9.mono (fun b _ e=>⟨e.1,fun e2=>e.2 (Or.inl e2)⟩);have P5:Hid (Blk w9 w7.heap.size 41 #[.int .u64 0,.int .u64 0,.int .u64 0]):=hiq (P4.out.chg hc9 (fun e=>e.2 (Or.inr rfl)));have q5:=cells3 P5.out;have p50:=q5.1;have p51:=q5.2.1;have p52:=q5.2.2;clear q5;have pf5:=fun j=>P5.out.frozen j;have zP5:=P5.out.lt;have hPz:w0.heap.size≤w7.heap.size∧w7.heap.size≤w7.heap.size:=⟨D7.out.z.bel.size,Nat.le_refl _⟩)))));refine hkI hK (h:=?_);clear hK K)
  try refine ztP ?_;refine ztC ?_;refine ztC ?_;refine ztC ?_
  refine ztD fun K hK=>?_;go_wp2_with (fail);refine hkI hK (h:=?_);clear hK K
  try refine ztP ?_
  refine ztE fun K hK=>?_;go_wp2_with (fail);refine hK.out _ _ ?_;clear hK K
  try refine ztP ?_;refine ztC ?_
  refine T_done ?_
  rotate_left 1
  (go_wp2_with (fail);refine hkI hK (h:=?_);clear hK K)
  try refine ztP ?_
  refine ztE fun K hK=>?_;go_wp2_with ((go_at_call 19;((with_reducible refine (DE.out _ _ (by first|exact D4.out|exact (D1s.keepP D4.out _))).mono ?_);rintro e w9 ⟨rfl,hz9,hc9⟩;(try dsimp only);(first|(have D5:Hid (D1s w9 D s2 false M _ K' E w0):=hiq hz9;have C5:Hid (Chg (KC K' w0.heap.size) w7 w9):=hiq (C4.out.trans hc9))|(have D5:Hid (D1s w9 D s2 false M _ (KP K' w8.heap.size) E w0):=hiq hz9;have C5:Hid (Chg (KC K' w0.heap.size) w7 w9):=hiq ((C4.out.alloc _).trans (hc9.mono (fun b _ e=>⟨e.1,fun e2=>e.2 (Or.inl e2)⟩)));have hcX:Chg (KC K' w0.heap.size) _ w9:=hc9.mono (fun b _ e=>⟨e.1,fun e2=>e.2 (Or.inl e2)⟩);have P5:Hid (Blk w9 w8.heap.size 41 #[.int .u64 0,.int .u64 0,.int .u64 0]):=hiq ((Blk.new w8 _ _).chg hc9 (fun e=>e.2 (Or.inr rfl)));have q5:=cells3 P5.out;have p50:=q5.1;have p51:=q5.2.1;have p52:=q5.2.2;clear q5;have pf5:=fun j=>P5.out.frozen j;have zP5:=P5.out.lt;have hPz:w0.heap.size≤w8.heap.size∧w7.heap.size≤w8.heap.size:=⟨Nat.le_trans D7.out.z.bel.size C4.out.size,C4.out.size⟩)|(have D5:Hid (D1s w9 D s2 false M _ (KP K' w7.heap.size) E w0):=hiq hz9;have C5:Hid (Chg (KC K' w0.heap.size) w7 w9):=hiq (C4.out.trans (hc9.mono (fun b _ e=>⟨e.1,fun e2=>e.2 (Or.inl e2)⟩)));have hcX:Chg (KC K' w0.heap.size) _ w9:=hc9.mono (fun b _ e=>⟨e.1,fun e2=>e.2 (Or.inl e2)⟩);have P5:Hid (Blk w9 w7.heap.size 41 #[.int .u64 0,.int .u64 0,.int .u64 0]):=hiq (P4.out.chg hc9 (fun e=>e.2 (Or.inr rfl)));have q5:=cells3 P5.out;have p50:=q5.1;have p51:=q5.2.1;have p52:=q5.2.2;clear q5;have pf5:=fun j=>P5.out.frozen j;have zP5:=P5.out.lt;have hPz:w0.heap.size≤w7.heap.size∧w7.heap.size≤w7.heap.size:=⟨D7.out.z.bel.size,Nat.le_refl _⟩)))));refine hK.out _ _ ?_;clear hK K
  try refine ztP ?_;refine ztC ?_;refine ztC ?_;refine ztC ?_
  refine ztE fun K hK=>?_;go_wp2_with (fail);refine hK.out _ _ ?_;clear hK K
  try refine ztP ?_;refine ztC ?_
  refine T_done ?_
  rotate_left 1
  rotate_right 2
  rotate_left 2
  (go_wp2_with (fail);refine hkI hK (h:=?_);clear hK K)
  try refine ztP ?_
  refine ztD fun K hK=>?_;go_wp2_with ((go_at_call 12;(with_reducible refine (probing_any _ _).mono ?_);rintro e w8 ⟨rfl,hb8⟩;(try dsimp only);(first|(have D4:Hid (D1s w8 D s false M mt0 K' E w0):=hiq (D7.out.z.drew.later hb8);have C4:Hid (Chg (KC K' w0.heap.size) w7 w8):=hiq ((Chg.refl _ _).drew.trans (Chg.of_below hb8)))|(have D4:Hid (D1s w8 D s false M mt0 (KP K' w7.heap.size) E w0):=hiq ((D1s.keepP D7.out.z.drew _).later hb8);have C4:Hid (Chg (KC K' w0.heap.size) w7 w8):=hiq (((Chg.refl _ _).drew.alloc _).trans (Chg.of_below hb8));have P4:Hid (Blk w8 w7.heap.size 41 #[.int .u64 0,.int .u64 0,.int .u64 0]):=hiq (Blk.below (Blk.new w7.drew _ _) hb8 (by simp))))));refine hkI hK (h:=?_);clear hK K
  try refine ztP ?_
  refine ztE fun K hK=>?_;go_wp2_with ((go_at_call 19;((with_reducible refine (DE.out _ _ (by first|exact D4.out|exact (D1s.keepP D4.out _))).mono ?_);rintro e w9 ⟨rfl,hz9,hc9⟩;(try dsimp only);(first|(have D5:Hid (D1s w9 D s2 false M _ K' E w0):=hiq hz9;have C5:Hid (Chg (KC K' w0.heap.size) w7 w9):=hiq (C4.out.trans hc9))|(have D5:Hid (D1s w9 D s2 false M _ (KP K' w8.heap.size) E w0):=hiq hz9;have C5:Hid (Chg (KC K' w0.heap.size) w7 w9):=hiq ((C4.out.alloc _).trans (hc9.mono (fun b _ e=>⟨e.1,fun e2=>e.2 (Or.inl e2)⟩)));have hcX:Chg (KC K' w0.heap.size) _ w9:=hc9.mono (fun b _ e=>⟨e.1,fun e2=>e.2 (Or.inl e2)⟩);have P5:Hid (Blk w9 w8.heap.size 41 #[.int .u64 0,.int .u64 0,.int .u64 0]):=hiq ((Blk.new w8 _ _).chg hc9 (fun e=>e.2 (Or.inr rfl)));have q5:=cells3 P5.out;have p50:=q5.1;have p51:=q5.2.1;have p52:=q5.2.2;clear q5;have pf5:=fun j=>P5.out.frozen j;have zP5:=P5.out.lt;have hPz:w0.heap.size≤w8.heap.size∧w7.heap.size≤w8.heap.size:=⟨Nat.le_trans D7.out.z.bel.size C4.out.size,C4.out.size⟩)|(have D5:Hid (D1s w9 D s2 false M _ (KP K' w7.heap.size) E w0):=hiq hz9;have C5:Hid (Chg (KC K' w0.heap.size) w7 w9):=hiq (C4.out.trans (hc9.mono (fun b _ e=>⟨e.1,fun e2=>e.2 (Or.inl e2)⟩)));have hcX:Chg (KC K' w0.heap.size) _ w9:=hc9.mono (fun b _ e=>⟨e.1,fun e2=>e.2 (Or.inl e2)⟩);have P5:Hid (Blk w9 w7.heap.size 41 #[.int .u64 0,.int .u64 0,.int .u64 0]):=hiq (P4.out.chg hc9 (fun e=>e.2 (Or.inr rfl)));have q5:=cells3 P5.out;have p50:=q5.1;have p51:=q5.2.1;have p52:=q5.2.2;clear q5;have pf5:=fun j=>P5.out.frozen j;have zP5:=P5.out.lt;have hPz:w0.heap.size≤w7.heap.size∧w7.heap.size≤w7.heap.size:=⟨D7.out.z.bel.size,Nat.le_refl _⟩)))));refine hK.out _ _ ?_;clear hK K
  try refine ztP ?_;refine ztC ?_;refine ztC ?_;refine ztC ?_
  refine ztE fun K hK=>?_;go_wp2_with (fail);refine hK.out _ _ ?_;clear hK K
  try refine ztP ?_;refine ztC ?_
  refine T_done ?_
  rotate_left 1
  rotate_right 3
  all_goals (go_wp2;go_meet)
  all_goals
   first
    | exact ⟨_,rfl,rfl,Blk.new _ _ _,D5.out.later ((Below.refl _ _).alloc (Nat.le_refl _) _),C5.out.alloc _,C5.out.size⟩
    | exact ⟨_,rfl,rfl,((P5.out.set 0 _).set 1 _).set 2 _,D1s.setP D5.out hPz.1 (((Chg.refl _ _).set1 _ _).set1 _ _ |>.set1 _ _),C5.out.trans' (((Chg.refl (fun b=>b=_) _).set1 _ _).set1 _ _ |>.set1 _ _) (fun c hc e=>absurd hc (by rw [e];exact Nat.not_lt.2 hPz.2)),hPz.2⟩
 obtain ⟨P9,rfl,rfl,hPb,hz9,hc9,hPw⟩:=hcut
 have Z9:=hiq hz9
 have C9:=hiq hc9
 have P9b:=hiq hPb
 have R9:=hiq (D7.out.keptM hc9).1
 have A9:=hiq (A7.out.chg hc9 (fun e=>e.2 HKK'.out.1))
 have E9:=hiq (E7.out.chg hc9 (fun e=>e.2 HKK'.out.2.1))
 have W9:=hiq (W7.out.chg hc9 (fun e=>e.2 HKK'.out.2.2.1))
 have HWP:=hiq (show W≠P9 from by have:=W7.out.lt;omega)
 have HPX:=hiq (show ∀b,DMX Rb X p0 pt s.k b→b≠P9 from fun b hb=>by have:=D7.out.r.lt b hb;omega)
 obtain ⟨e90,e91,e92⟩:=cells3 E9.out
 have ze9:=E9.out.lt
 obtain ⟨a90,a91,a92⟩:=cells3 A9.out
 have za9:=A9.out.lt
 clear hz9 hc9 hPw hPb a0 a1 a2' za e0 e1 e2 ze m5 zm5 m8 zm8 hX5 hX8 hXE hXA DE
 have Z9s:Hid (D1s wc D s false M (addN mt0 1 0 0 n) K' E w0):=hiq (by rw [←HS20.out];exact Z9.out)
 have D9:=hiq (D7.out.both (s':=s) rfl Z9s.out C9.out R9.out (Chg.refl _ _))
 obtain ⟨wq,hwq⟩:=exq wc
 subst hwq
 clear Z9 Z9s C9 HS20
 go_upto_region 50 with (fail)
 go_cut [29,30] from 238 to 248 (fun vP vB wx => ∃PB,vP = .pointer (some ⟨PB,0,none⟩)∧vB = .bool bb∧Blk wx PB 41 #[.int .u64 en0,.int .u64 en1,.int .u64 en2]∧Below wq.heap.size wq wx∧wq.heap.size≤PB)
 case first =>
  refine wp_region_T (fun _=>False) #[⟨0,0,2^239,64,0⟩,⟨1,1,2^240,2^239,2⟩,⟨0,0,2^241,4096,0⟩,⟨4,4,2^242,2^241,1⟩,⟨0,0,2^243,2048,0⟩,⟨16,16,2^244,2^243,1⟩,⟨32,48,2^245,2^244,0⟩,⟨74,127,2^246,(2^240+2^242+2^245),3⟩,⟨128,255,2^238,2^246,0⟩,⟨256,511,2^247,2^238,0⟩,⟨256,511,2^248,2^238,0⟩,⟨0,0,536870912,0,2⟩,⟨3071,3071,0,(2^29+2^247),3⟩,⟨8191,8191,1073741824,2^248,0⟩] 40 (.step 0 0 (.step 2 0 (.step 3 1 (.step 4 0 (.step 5 1 (.step 6 0 (.fork (.alt 1 (.fork (.alt 7 (.step 8 0 (.step 9 0 (.step 10 0 (.step 11 2 (.step 12 3 (.step 13 0 Plan.done)))))) (.alt 11 (.step 7 3 (.step 8 0 (.step 9 0 (.step 10 0 (.step 12 3 (.step 13 0 Plan.done)))))) Plan.none))) (.alt 11 (.step 1 2 (.step 7 3 (.step 8 0 (.step 9 0 (.step 10 0 (.step 12 3 (.step 13 0 Plan.done))))))) Plan.none))))))))) (by kernel_rfl) (by decide +kernel) (by kernel_rfl) (by kernel_rfl) (by kernel_rfl) (by decide +kernel) (fun c a d v w h=>hPan.out c a d v w h) ?_
  refine ztC ?_;refine ztC ?_
  refine zt1 Tryz.underlying39 ?_
  try refine ztP ?_;refine ztC ?_
  refine zt1 Tryz.underlying3 ?_
  try refine ztP ?_;refine ztC ?_
  refine zt2 (fun K hK=>?_) fun K hK=>?_
  (go_wp2_with ((go_at_call 21;((with_reducible refine (AA.out _ (by first|exact R9.out.drew|exact R9.out.drew.later ((Below.refl _ _).alloc (Nat.le_refl _) _))).mono ?_);rintro e wA ⟨va,rfl,hrA,hbA⟩;(try dsimp only);have RA:=hiq hrA;clear hrA;(first|(have BA:Hid (Below wq.heap.size wq wA):=hiq ((Below.refl _ _).drew.trans hbA))|(have BA:Hid (Below wq.heap.size wq wA):=hiq (((Below.refl _ _).drew.alloc (Nat.le_refl _) _).trans (hbA.mono (by simp)));have PA:Hid (Blk wA wq.heap.size 41 #[.int .u64 0,.int .u64 0,.int .u64 0]):=hiq (Blk.below (Blk.new wq.drew _ _) hbA (by simp)))))));refine hkI hK (h:=?_);clear hK K)
  try refine ztP ?_
  refine zt2 (fun K hK=>?_) fun K hK=>?_
  (go_wp2_with ((go_at_call 20;((with_reducible refine (LP.out _ _ _ (by first|exact RA.out|exact ownsRow_later RA.out ((Below.refl _ _).alloc (Nat.le_refl _) _))).mono ?_);rintro e wL ⟨rfl,hbL⟩;(try dsimp only);(first|(have PL:Hid (Blk wL wq.heap.size 41 #[.int .u64 0,.int .u64 0,.int .u64 0]):=hiq (PA.out.below hbL PA.out.lt);have BL:Hid (Below wq.heap.size wq wL):=hiq (BA.out.trans (hbL.mono BA.out.size));have hPz:wq.heap.size≤wq.heap.size:=Nat.le_refl _;have q5:=cells3 PL.out;have p50:=q5.1;have p51:=q5.2.1;have p52:=q5.2.2;clear q5;have pf5:=fun j=>PL.out.frozen j;have zP5:=PL.out.lt)|(have PL:Hid (Blk wL wA.heap.size 41 #[.int .u64 0,.int .u64 0,.int .u64 0]):=hiq (Blk.below (Blk.new wA _ _) hbL (by simp));have BL:Hid (Below wq.heap.size wq wL):=hiq ((BA.out.alloc BA.out.size _).trans (hbL.mono (by have:=BA.out.size;simp;omega)));have hPz:wq.heap.size≤wA.heap.size:=BA.out.size;have q5:=cells3 PL.out;have p50:=q5.1;have p51:=q5.2.1;have p52:=q5.2.2;clear q5;have pf5:=fun j=>PL.out.frozen j;have zP5:=PL.out.lt)|(have BL:Hid (Below wq.heap.size wq wL):=hiq (BA.out.trans (hbL.mono BA.out.size)))))));refine hkI hK (h:=?_);clear hK K)
  try refine ztP ?_;refine ztC ?_;refine ztC ?_;refine ztC ?_
  refine ztD fun K hK=>?_;go_wp2_with (fail);refine hkI hK (h:=?_);clear hK K
  try refine ztP ?_
  refine ztE fun K hK=>?_;go_wp2_with (fail);refine hK.out _ _ ?_;clear hK K
  try refine ztP ?_;refine ztC ?_
  refine T_done ?_
  rotate_left 1
  (go_wp2_with (fail);refine hkI hK (h:=?_);clear hK K)
  try refine ztP ?_
  refine ztE fun K hK=>?_;go_wp2_with ((go_at_call 20;((with_reducible refine (LP.out _ _ _ (by first|exact RA.out|exact ownsRow_later RA.out ((Below.refl _ _).alloc (Nat.le_refl _) _))).mono ?_);rintro e wL ⟨rfl,hbL⟩;(try dsimp only);(first|(have PL:Hid (Blk wL wq.heap.size 41 #[.int .u64 0,.int .u64 0,.int .u64 0]):=hiq (PA.out.below hbL PA.out.lt);have BL:Hid (Below wq.heap.size wq wL):=hiq (BA.out.trans (hbL.mono BA.out.size));have hPz:wq.heap.size≤wq.heap.size:=Nat.le_refl _;have q5:=cells3 PL.out;have p50:=q5.1;have p51:=q5.2.1;have p52:=q5.2.2;clear q5;have pf5:=fun j=>PL.out.frozen j;have zP5:=PL.out.lt)|(have PL:Hid (Blk wL wA.heap.size 41 #[.int .u64 0,.int .u64 0,.int .u64 0]):=hiq (Blk.below (Blk.new wA _ _) hbL (by simp));have BL:Hid (Below wq.heap.size wq wL):=hiq ((BA.out.alloc BA.out.size _).trans (hbL.mono (by have:=BA.out.size;simp;omega)));have hPz:wq.heap.size≤wA.heap.size:=BA.out.size;have q5:=cells3 PL.out;have p50:=q5.1;have p51:=q5.2.1;have p52:=q5.2.2;clear q5;have pf5:=fun j=>PL.out.frozen j;have zP5:=PL.out.lt)|(have BL:Hid (Below wq.heap.size wq wL):=hiq (BA.out.trans (hbL.mono BA.out.size)))))));refine hK.out _ _ ?_;clear hK K
  try refine ztP ?_;refine ztC ?_;refine ztC ?_;refine ztC ?_
  refine ztE fun K hK=>?_;go_wp2_with (fail);refine hK.out _ _ ?_;clear hK K
  try refine ztP ?_;refine ztC ?_
  refine T_done ?_
  rotate_left 1
  rotate_right 2
  rotate_left 2
  (go_wp2_with (fail);refine hkI hK (h:=?_);clear hK K)
  try refine ztP ?_
  refine ztD fun K hK=>?_;go_wp2_with ((go_at_call 21;((with_reducible refine (AA.out _ (by first|exact R9.out.drew|exact R9.out.drew.later ((Below.refl _ _).alloc (Nat.le_refl _) _))).mono ?_);rintro e wA ⟨va,rfl,hrA,hbA⟩;(try dsimp only);have RA:=hiq hrA;clear hrA;(first|(have BA:Hid (Below wq.heap.size wq wA):=hiq ((Below.refl _ _).drew.trans hbA))|(have BA:Hid (Below wq.heap.size wq wA):=hiq (((Below.refl _ _).drew.alloc (Nat.le_refl _) _).trans (hbA.mono (by simp)));have PA:Hid (Blk wA wq.heap.size 41 #[.int .u64 0,.int .u64 0,.int .u64 0]):=hiq (Blk.below (Blk.new wq.drew _ _) hbA (by simp)))))));refine hkI hK (h:=?_);clear hK K
  try refine ztP ?_
  refine ztE fun K hK=>?_;go_wp2_with ((go_at_call 20;((with_reducible refine (LP.out _ _ _ (by first|exact RA.out|exact ownsRow_later RA.out ((Below.refl _ _).alloc (Nat.le_refl _) _))).mono ?_);rintro e wL ⟨rfl,hbL⟩;(try dsimp only);(first|(have PL:Hid (Blk wL wq.heap.size 41 #[.int .u64 0,.int .u64 0,.int .u64 0]):=hiq (PA.out.below hbL PA.out.lt);have BL:Hid (Below wq.heap.size wq wL):=hiq (BA.out.trans (hbL.mono BA.out.size));have hPz:wq.heap.size≤wq.heap.size:=Nat.le_refl _;have q5:=cells3 PL.out;have p50:=q5.1;have p51:=q5.2.1;have p52:=q5.2.2;clear q5;have pf5:=fun j=>PL.out.frozen j;have zP5:=PL.out.lt)|(have PL:Hid (Blk wL wA.heap.size 41 #[.int .u64 0,.int .u64 0,.int .u64 0]):=hiq (Blk.below (Blk.new wA _ _) hbL (by simp));have BL:Hid (Below wq.heap.size wq wL):=hiq ((BA.out.alloc BA.out.size _).trans (hbL.mono (by have:=BA.out.size;simp;omega)));have hPz:wq.heap.size≤wA.heap.size:=BA.out.size;have q5:=cells3 PL.out;have p50:=q5.1;have p51:=q5.2.1;have p52:=q5.2.2;clear q5;have pf5:=fun j=>PL.out.frozen j;have zP5:=PL.out.lt)|(have BL:Hid (Below wq.heap.size wq wL):=hiq (BA.out.trans (hbL.mono BA.out.size)))))));refine hK.out _ _ ?_;clear hK K
  try refine ztP ?_;refine ztC ?_;refine ztC ?_;refine ztC ?_
  refine ztE fun K hK=>?_;go_wp2_with (fail);refine hK.out _ _ ?_;clear hK K
  try refine ztP ?_;refine ztC ?_
  refine T_done ?_
  rotate_left 1
  rotate_right 3
  all_goals (go_wp2;go_meet)
  all_goals
   first
    | exact ⟨_,rfl,rfl,Blk.new _ _ _,BL.out.alloc BL.out.size _,BL.out.size⟩
    | exact ⟨_,rfl,rfl,((PL.out.set 0 _).set 1 _).set 2 _,BL.out.trans ((((Chg.refl (fun b=>b=_) _).set1 _ _).set1 _ _ |>.set1 _ _).below BL.out.size (fun k hk e=>absurd hk (by rw [e];exact Nat.not_lt.2 hPz))),hPz⟩
 obtain ⟨PB,rfl,rfl,hPBb,hbq,hPq⟩:=hcut
 have Dq:=hiq (D9.out.later hbq)
 have P9q:=hiq (P9b.out.below hbq P9b.out.lt)
 have W9q:=hiq (W9.out.below hbq W9.out.lt)
 have PBq:=hiq hPBb
 have hne:W≠P9∧W≠PB:=⟨HWP.out,by have:=W9.out.lt;omega⟩
 obtain ⟨w90,w91,w92⟩:=cells3 W9q.out
 have zw9:=W9q.out.lt
 have fw9:=W9q.out.frozen 0
 clear hbq hPq hPBb e90 e91 e92 ze9 a90 a91 a92 za9
 go_upto_region 52 with (go_at_call 22;(with_reducible refine (GM.out _ Dq.out.r).mono ?_);rintro e w' ⟨rfl,rfl⟩;(try dsimp only))
 refine wp_at (fun w10 hw10=>?_)
 have hc10:Chg (fun b=>b=W) w' w10:=by rw [hw10];exact (Chg.refl _ _).set1 _ _
 have D10:=hiq (Dq.out.other HWK.out HKK'.out.2.2.1 hWW.1 hc10)
 have W10:=hiq (show Blk w10 W 34 #[.int .i64 (n:Int),.int .i64 0,.int .i64 0] by rw [hw10];exact W9q.out.set 0 _)
 have P10:=hiq (P9q.out.chg hc10 (fun e=>hne.1 e.symm))
 have Q10:=hiq (PBq.out.chg hc10 (fun e=>hne.2 e.symm))
 obtain ⟨p0',p1',p2'⟩:=cells3 P10.out
 obtain ⟨p3',p4',p5'⟩:=cells3 Q10.out
 have zP10:=P10.out.lt
 have zQ10:=Q10.out.lt
 replace hw10:=hiq hw10
 clear hc10 hne w90 w91 w92 zw9 fw9 Dq P9q W9q PBq
 go_wp2
 have hbf:=HBF.out
 rw [HSK.out.1] at hbf
 have hbfb:0≤bf∧bf≤1000000000:=by
  have h1:=HBF.out
  have h2:=sumI_bd (f:=Lc) (m:=10000*(j:Int)) (n:=s.k) (fun i hi=>HLC.out i (by rw [←HSK.out.1];exact hi))
  have h3:=HY.out.k12
  have h4:(s.k:Int)*(10000*(j:Int))≤2*(10000*(j:Int)):=Int.mul_le_mul_of_nonneg_right (by omega) (by omega)
  omega
 have hd:(n:Int)+(L0+sumI Lc k-bf)=(n:Int):=by omega
 have hnb:=HNB.out
 refine HQ.out s _ L0 Lc bf (n:Int) 0 0 _ _ _ _ _ _ _ _ _ _ _ _ _ _ _ _ _ _ _ _ _ _ _ _ _ _ _ _ _ _ _ _ _ _ _ _ _ _ _ _ _ _ _ _ _ _ _ _ _ _ _ _ _ _ _ _ _ _ _ _ _ _ _ _ _ _ _ _ _ _ _ _ _ _ _ _ _ _ _ _ _ _ _ _ _ _ _ _ _ _ _ _ _ _ _ _ _ _ _ _ _ _ _ _ _ _ _ _ _ _ _ _ _ _ _ _ _ _ _ _ _ _ _ _ _ _ _ _ _ _ _ _ _ _ _ _ _ _ _ _ _ _ _ _ _ _ _ _ _ _ _ _ _ _ _ _ _ _ _ _ _ _ _ _ _ _ _ _ _ _ _ _ _ _ _ _ _ _ _ _ _ _ _ _ _ _ _ _ _ _ _ _ _ _ _ _ _ _ _ _ _ _ _ _ _ _ _ _ _ _ _ _ _ _ _ _ _ _ _ _ _ _ _ _ _ _ _ _ _ _ _ _ _ _ _ _ _ _ _ _ _ _ _ _ _ _ _ _ _ _ _ _ _ _ _ _ _ _ _ _ _ _ _ _ _ _ _ _ _ _ ⟨D10.out,W10.out,HY.out.more (by omega),HSK.out,?_,?_,by omega,by omega,by omega,hbfb,by omega,fun i hi=>?_⟩
 · rw [hd];simpa using HCN2.out
 · rw [hd];omega
 · have:=HLC.out i hi;omega
theorem daK5 (hkd:kd=5):Code.wp Tryz.prog daBlk Q a w7:=by
 subst ha
 subst hkd
 conv=>arg 2;whnf
 have D7:=hiq F.d
 have A7:=hiq F.a
 have E7:=hiq F.e
 have W7:=hiq F.t
 have HKK':=hiq F.kk
 have NX:=hiq F.nx
 have HWK:=hiq F.wk
 have HWK2:=hiq (show ¬KA C B5 B8 AL Rb X gt p0 pt s.stp.k W from by rw [(stp_k s).1];exact F.wk)
 have hWW:=F.ww
 have HSK:=hiq F.sk
 have HY:=hiq F.y
 have HHx:=hiq F.hx
 have hGx:=F.gx
 have HHb:=hiq F.hb
 have hCN0:=hiq F.cn
 have hq:=F.q
 have hL0:=F.l
 have HLC:=hiq F.lc
 have HBF:=hiq F.bf
 have HE:=hiq F.he
 have hv0:=F.vv
 have hgb:=F.g
 have hjb:=F.j
 have HQ:=hiq hQ
 have HR:=hiq hR
 have hyk:=HY.out.f.ok.yk h
 have hlT:s.lkT (x:Int) h≤64:=by unfold DuS.lkT;split;omega;exact looks_n HY.out.f.t.good _ _
 have hlU:s.lkU (x:Int) h≤64:=by unfold DuS.lkU;split;exact looks_n (HY.out.f.ok.u _ hyk).1 _ _;omega
 have hLy:0≤Lc (s.y h)∧Lc (s.y h)≤100000000:=by have:=HLC.out (s.y h) (by rw [←HSK.out.1];exact hyk);omega
 have hL8:0≤L0∧L0≤100000000:=by omega
 clear hQ hR F
 by_cases hl0:s.left=0
 · have TK:=hiq (fun (w':World) (h':D1s w' D s false M mt0 K' E w0)=>h'.take hl0)
   have LM:=hiq (fun (w':World) (h':DM w' Rb X gt tcap p0 pt s false L0 Lc)=>h'.left HY.out.f.ok)
   rw [show ((s.left:Nat):Int)=0 by omega] at LM
   have hk12:=HY.out.k12
   obtain ⟨ks,hks⟩:=exq s.k
   have HKS:=hiq hks
   have m5:=D7.out.b5.cell 0
   have zm5:=D7.out.b5.lt
   clear hl0
   go_upto_region 59 with (first
    | (go_at_call 23;(with_reducible refine (TK.out _ D7.out.z).mono ?_);rintro e w8 ⟨v,TB,TQ,rfl,hrow,hTN,hc8⟩;(try dsimp only);have R8:=hiq (D7.out.keptM hc8).1;obtain ⟨gr,capr,curr,rfl,hgr,hgb,hgc⟩:=row_ptrs hrow (by omega);have TN8:=hiq hTN;have B8w:=hiq (D7.out.z.bel.trans (hc8.below D7.out.z.bel.size (fun k hk e=>by have:=e.1;omega)));have GC8:=hiq hgc;have zg8:=hgb.lt;clear hrow hTN hc8 hgb hgc)
    | (go_at_call 24;(with_reducible refine (LM.out _ R8.out).mono ?_);rintro e w9 ⟨rfl,hb9⟩;(try dsimp only);have R9:=hiq (R8.out.later hb9);have B9:=hiq hb9;have h90:=R9.out.hd.cell 0;have h92:=R9.out.hd.cell 2;have zh9:=R9.out.hd.lt;have x9:=vmcells R9.out.r.v;have x91:=x9.2.1;have zx9:=x9.2.2.2.2.1;clear x9 hb9))
   go_wp2
   go_loopg [311] s.k (fun gk v311 wr => ∃i:Nat,i+gk=s.k∧v311 = .int .i64 (i:Int)∧Below w9.heap.size w9 wr)
   case atStart=>exact ⟨0,by omega,rfl,Below.refl _ _⟩
   case round =>
    clear h90 h92 zh9 x91 zx9 m5 zm5
    obtain ⟨i,hi,rfl,hB⟩:=hrel
    have KB:=hiq hB
    clear hB
    by_cases hik:i<s.k
    · have hiI:(i:Int)<(s.k:Int):=by omega
      have Rr:=hiq (R9.out.later KB.out)
      have h90:=Rr.out.hd.cell 0
      have zh9:=Rr.out.hd.lt
      obtain ⟨-,x91,-,-,zx9,-⟩:=vmcells Rr.out.r.v
      have gl:=Rr.out.r.v.l i hik
      have zgt:=Rr.out.r.v.lt
      have B9r:=hiq (B9.out.trans (KB.out.mono B9.out.size))
      have TX:=hiq (fun (w':World) (h':Below w8.heap.size w8 w')=>TMW.text ((TN8.out i hik).later h'))
      have TD:=hiq (fun (w':World) (h':DM w' Rb X gt tcap p0 pt s false L0 Lc)=>(h'.r.t i hik).text)
      have XL:(s.U i).texts.length<9223372036854775807:=by
       rw [TabS.texts_len];have:=(HY.out.f.ok.u i hik).1.bounds;omega
      have gc:=(B9r.out.cell (p:=⟨gr,i,none⟩) zg8).trans (GC8.out i hik)
      have zgr:gr<wr.heap.size:=Nat.lt_of_lt_of_le zg8 B9r.out.size
      generalize (s.U i).texts=tx at *
      go_upto_region 62 with (fail)
      refine wp_region_seq (fun _=>False) #[⟨0,0,2^316,34359738368,0⟩,⟨1,1,2^317,2^316,2⟩,⟨0,0,2^318,64,0⟩,⟨4,4,2^319,2^318,0⟩,⟨8,12,2^320,2^319,0⟩,⟨16,28,2^321,2^320,1⟩,⟨32,60,2^322,2^321,0⟩,⟨64,124,2^323,2^322,0⟩,⟨128,252,2^324,2^323,1⟩,⟨0,0,2^325,17179869184,0⟩,⟨768,1020,2^326,(2^324+2^325),0⟩,⟨1024,2044,2^327,2^326,1⟩,⟨2050,4095,2^328,2^327,3⟩,⟨4098,8191,2^329,(2^317+2^328),3⟩,⟨8192,16383,2^330,2^329,0⟩] 2336 [(0,0),(2,0),(3,0),(4,0),(5,1),(6,0),(7,0),(8,1),(9,0),(10,0),(11,1),(1,2),(12,3),(13,3),(14,0)] (by kernel_rfl) (by decide +kernel) (by kernel_rfl) (by kernel_rfl) (by decide +kernel) (by decide +kernel) (fun c a d v w h=>hPan.out c a d v w h) ?_
      refine zqC ?_;refine zqC ?_;refine zqC ?_;refine zqC ?_
      refine zq1 Tryz.underlying43 ?_
      try refine zqP ?_;refine zqC ?_;refine zqC ?_
      refine zq1 Tryz.underlying71 ?_
      try refine zqP ?_;refine zqC ?_;refine zqC ?_
      refine zq1 Tryz.underlying70 ?_
      try refine zqP ?_
      refine zqD fun K hK=>?_;go_wp2_with ((go_at_call 26;((with_reducible refine (TX.out _ B9r.out.drew).mono ?_);rintro e w10 ⟨v6,rfl,hr6,hb6⟩;(try dsimp only);have R10:=hiq (Rr.out.drew.later hb6);have K10:=hiq (KB.out.drew.trans (hb6.mono KB.out.size));have R6:=hiq hr6;clear hr6)));refine hkA hK (h:=?_);clear hK K
      try refine zqP ?_
      refine zqE fun K hK=>?_;go_wp2_with ((go_at_call 27;((with_reducible refine (TD.out _ R10.out).mono ?_);rintro e w11 ⟨v7,rfl,hr7,hb7⟩;(try dsimp only);have R7:=hiq hr7;have K11:=hiq (K10.out.trans (hb7.mono K10.out.size));clear hr7)));refine hK.out _ _ ?_;clear hK K
      try refine zqP ?_
      refine zqE fun K hK=>?_;go_wp2_with ((go_at_call 25;((with_reducible refine (sameTexts_any v6 v7 tx _ (R6.out.later hb7) R7.out XL).mono ?_);rintro e w12 ⟨rfl,rfl⟩;(try dsimp only))));refine hK.out _ _ ?_;clear hK K
      try refine zqP ?_;refine zqC ?_
      refine seq_nil ?_
      go_wp2
      go_roundg (gk-1)
      case measure=>omega
      case rel=>exact ⟨i+1,by omega,by go_num,K11.out⟩
    · obtain rfl:i=s.k:=by omega
      go_wp2
      refine HR.out _ _ _ _ _ _ _ _ _ _ _ _ _ _ _ _ _ _ _ _ _ _ _ _ _ _ _ _ _ _ _ _ _ _ _ _ _ _ _ _ _ _ _ _ _ _ _ _ _ _ _ _ _ _ _ _ _ _ _ _ _ _ _ _ _ _ _ _ _ _ _ _ _ _ _ _ _ _ _ _ _ _ _ _ _ _ _ _ _ _ _ _ _ _ _ _ _ _ _ _ _ _ _ _ _ _ _ _ _ _ _ _ _ _ _ _ _ _ _ _ _ _ _ _ _ _ _ _ _ _ _ _ _ _ _ _ _ _ _ _ _ _ _ _ _ _ _ _ _ _ _ _ _ _ _ _ _ _ _ _ _ _ _ _ _ _ _ _ _ _ _ _ _ _ _ _ _ _ _ _ _ _ _ _ _ _ _ _ _ _ _ _ _ _ _ _ _ _ _ _ _ _ _ _ _ _ _ _ _ _ _ _ _ _ _ _ _ _ _ _ _ _ _ _ _ _ _ _ _ _ _ _ _ _ _ _ _ _ _ _ _ _ _ _ _ _ _ _ _ _ _ _ _ _ _ _ _ _ _ _ _ _ _ _ _ _ _ _ _ _ ?_
      exact ((B8w.out.trans (B9.out.mono B8w.out.size)).trans (KB.out.mono (Nat.le_trans B8w.out.size B9.out.size)))
 · have TK:=hiq (fun (w':World) (h':D1s w' D s false M mt0 K' E w0)=>h'.takeNo (.inl (by omega)))
   have LM:=hiq (fun (w':World) (h':DM w' Rb X gt tcap p0 pt s false L0 Lc)=>h'.left HY.out.f.ok)
   have NU:=hiq (fun (w':World) (h':ErrsAre w' E)=>(show Calls Tryz.prog 14 #[errAt E 5] w' fun e w''=>e = .returned (.int .i64 5)∧Below w'.heap.size w' w'' from num_any E 5 (by omega) w' h'))
   unfold errAt at TK NU
   obtain ⟨lf,hlf⟩:∃lf:Int,lf=((s.left:Nat):Int):=⟨_,rfl⟩
   rw [←hlf] at LM
   have hlz:¬lf=0:=by omega
   have hlb:decide (lf=0)=false:=by simpa using hlz
   have hlc':(lf == 0)=false:=by simpa using hlz
   have m5:=D7.out.b5.cell 0
   have zm5:=D7.out.b5.lt
   clear hlf hl0
   go_upto_region 59 with (first
    | (go_at_call 23;(with_reducible refine (TK.out _ D7.out.z).mono ?_);rintro e w8 ⟨rfl,hb8⟩;(try dsimp only);have D8:=hiq (D7.out.later hb8);have W8:=hiq (W7.out.below hb8 W7.out.lt))
    | (go_at_call 24;(with_reducible refine (LM.out _ D8.out.r).mono ?_);rintro e w9 ⟨rfl,hb9⟩;(try dsimp only);have D9:=hiq (D8.out.later hb9);have W9:=hiq (W8.out.below hb9 W8.out.lt))
    | (go_at_call 14;(with_reducible refine (NU.out _ (HE.out.below D9.out.z.bel)).mono ?_);rintro e w10 ⟨rfl,hb10⟩;(try dsimp only);have D10:=hiq (D9.out.later hb10);have W10:=hiq (W9.out.below hb10 W9.out.lt)))
   go_wp2
   refine wp_loop_rounds 1 ?_
   rw [rounds_succ]
   go_wp2
   have hbf:=HBF.out
   rw [HSK.out.1] at hbf
   have hbfb:0≤bf∧bf≤1000000000:=by
    have h1:=HBF.out
    have h2:=sumI_bd (f:=Lc) (m:=10000*(j:Int)) (n:=s.k) (fun i hi=>HLC.out i (by rw [←HSK.out.1];exact hi))
    have h3:=HY.out.k12
    have h4:(s.k:Int)*(10000*(j:Int))≤2*(10000*(j:Int)):=Int.mul_le_mul_of_nonneg_right (by omega) (by omega)
    omega
   have hd:(0:Int)+(L0+sumI Lc k-bf)=0:=by omega
   refine HQ.out s mt0 L0 Lc bf 0 0 0 _ _ _ _ _ _ _ _ _ _ _ _ _ _ _ _ _ _ _ _ _ _ _ _ _ _ _ _ _ _ _ _ _ _ _ _ _ _ _ _ _ _ _ _ _ _ _ _ _ _ _ _ _ _ _ _ _ _ _ _ _ _ _ _ _ _ _ _ _ _ _ _ _ _ _ _ _ _ _ _ _ _ _ _ _ _ _ _ _ _ _ _ _ _ _ _ _ _ _ _ _ _ _ _ _ _ _ _ _ _ _ _ _ _ _ _ _ _ _ _ _ _ _ _ _ _ _ _ _ _ _ _ _ _ _ _ _ _ _ _ _ _ _ _ _ _ _ _ _ _ _ _ _ _ _ _ _ _ _ _ _ _ _ _ _ _ _ _ _ _ _ _ _ _ _ _ _ _ _ _ _ _ _ _ _ _ _ _ _ _ _ _ _ _ _ _ _ _ _ _ _ _ _ _ _ _ _ _ _ _ _ _ _ _ _ _ _ _ _ _ _ _ _ _ _ _ _ _ _ _ _ _ _ _ _ _ _ _ _ _ _ _ _ _ _ _ _ _ _ _ _ _ _ _ _ _ _ _ _ _ _ _ _ _ _ _ _ _ _ _ ⟨D10.out,W10.out,HY.out.more (by omega),HSK.out,?_,?_,by omega,by omega,by omega,hbfb,by omega,fun i hi=>?_⟩
   · rw [hd];simpa using hCN0.out
   · rw [hd];omega
   · have:=HLC.out i hi;omega
theorem daK6 (hkd:(kd == 0)=false∧(kd == 1)=false∧(kd == 2)=false∧(kd == 3)=false∧(kd == 4)=false∧(kd == 5)=false):Code.wp Tryz.prog daBlk Q a w7:=by
 subst ha
 obtain ⟨q0k',q1k',q2k',q3k',q4k',q5k'⟩:=hkd
 conv=>arg 2;whnf
 have D7:=hiq F.d
 have A7:=hiq F.a
 have E7:=hiq F.e
 have W7:=hiq F.t
 have HKK':=hiq F.kk
 have NX:=hiq F.nx
 have HWK:=hiq F.wk
 have HWK2:=hiq (show ¬KA C B5 B8 AL Rb X gt p0 pt s.stp.k W from by rw [(stp_k s).1];exact F.wk)
 have hWW:=F.ww
 have HSK:=hiq F.sk
 have HY:=hiq F.y
 have HHx:=hiq F.hx
 have hGx:=F.gx
 have HHb:=hiq F.hb
 have hCN0:=hiq F.cn
 have hq:=F.q
 have hL0:=F.l
 have HLC:=hiq F.lc
 have HBF:=hiq F.bf
 have HE:=hiq F.he
 have hv0:=F.vv
 have hgb:=F.g
 have hjb:=F.j
 have HQ:=hiq hQ
 have HR:=hiq hR
 have hyk:=HY.out.f.ok.yk h
 have hlT:s.lkT (x:Int) h≤64:=by unfold DuS.lkT;split;omega;exact looks_n HY.out.f.t.good _ _
 have hlU:s.lkU (x:Int) h≤64:=by unfold DuS.lkU;split;exact looks_n (HY.out.f.ok.u _ hyk).1 _ _;omega
 have hLy:0≤Lc (s.y h)∧Lc (s.y h)≤100000000:=by have:=HLC.out (s.y h) (by rw [←HSK.out.1];exact hyk);omega
 have hL8:0≤L0∧L0≤100000000:=by omega
 clear hQ hR F
 have hLcs:∀i,i<s.k→0≤Lc i∧Lc i≤10000*(j:Int):=fun i hi=>HLC.out i (by rw [←HSK.out.1];exact hi)
 have m5:=D7.out.b5.cell 0
 have zm5:=D7.out.b5.lt
 rcases s.ev_or with hev | ⟨hb0,hnx,hne⟩
 · have CT:=hiq (fun (w':World) (h':D1s w' D s false M mt0 (KP K' w7.heap.size) E w0) (h5:Blk w' B5 28 #[.pointer (some ⟨D,0,none⟩)]) (h8:Blk w' B8 32 #[.pointer (some ⟨M,0,none⟩)]) (hI:Blk w' w7.heap.size 4 #[.bool false])=>dcatch_ok h' h5 h8 hI (.inr rfl) D7.out.z.bel.size hev)
   have ST:=hiq (fun (w':World) (h':DM w' Rb X gt tcap p0 pt s false L0 Lc)=>h'.stp HY.out.f.ok hev hL8 (10000*(j:Int)) (by omega) hLcs)
   have HYS:=hiq (HY.out.stp HHb.out hev)
   have HCS2:=hiq (hCN0.out.stp HY.out.f.ok.hx (by omega) (by have:=HY.out.f.ok.stpV;omega))
   have hvb2:=HY.out.f.ok.stpV
   have hlx:0<s.left∨s.stpV=0:=by
    unfold DuS.left DuS.stpV
    by_cases e1:s.bare=0
    · by_cases e2:s.nx<s.T.n
      · left;omega
      · right;rw [if_pos e1,if_neg e2]
    · left;omega
   have hbl:s.bare=0∨0<s.left:=by unfold DuS.left;omega
   obtain ⟨sv,hsv⟩:=exq s.stpV
   rw [←hsv] at ST HCS2 hvb2 hlx
   obtain ⟨bI,hbI⟩:∃bI:Int,bI=(s.bare:Int):=⟨_,rfl⟩
   have HBI:=hiq hbI
   have hSB:=hiq (sumI_bd (f:=Lc) (m:=10000*(j:Int)) (n:=s.k) hLcs)
   have hS4:=hiq (show (s.k:Int)*(10000*(j:Int))≤2*(10000*(j:Int)) from Int.mul_le_mul_of_nonneg_right (by have:=HY.out.k12;omega) (by omega))
   have HSV:=hiq hvb2
   clear hsv hev hLcs
   by_cases hb:s.bare=0
   · rw [if_pos hb] at HCS2
     have hbi0:¬bI > 0:=by omega
     have hbi1:¬ (0<bI):=hbi0
     have hbi2:decide (bI > 0)=false:=by simpa using hbi0
     have hbi3:decide (0<bI)=false:=by simpa using hbi0
     clear hbI hb hbl
     by_cases hl:0<s.left
     · rw [decide_eq_true hl] at ST CT
       rw [if_pos hl] at HCS2
       clear hl hlx
       go_wp2_with (first
        | (go_at_call 28;((with_reducible refine (CT.out _ (D7.out.z.keepP _) (D7.out.b5.alloc _) (D7.out.b8.alloc _) (Blk.new _ _ _)).mono ?_);rintro e w8 ⟨rfl,hz8,hI8,hc8⟩;(try dsimp only);have Z8:=hiq (show D1s w8 D s.stp false M (s.stpM mt0) K' E w0 from hz8.keep (Below.refl _ _) (fun b e => .inl (.inl e)));have C8:=hiq (show Chg (KC K' w0.heap.size) w7 w8 from ((Chg.refl _ w7).alloc _).trans' hc8 (fun c hc e=>by rcases e with e|e;exact ⟨e.1,fun k=>e.2 (.inl k)⟩;omega));have I8:=hiq hI8;have R8:=hiq (D7.out.keptM C8.out).1;have W8:=hiq (W7.out.chg C8.out (fun e=>e.2 HKK'.out.2.2.1));have h80:=R8.out.hd.cell 0;have h81:=R8.out.hd.cell 1;rw [←HBI.out] at h81;have zh8:=R8.out.hd.lt;clear hz8 hI8 hc8))
        | (go_at_call 31;((with_reducible refine (ST.out _ R8.out).mono ?_);rintro e w9 ⟨L0',Lc',rfl,hr9,hs9,hL9,hl9,hc9⟩;(try dsimp only);have D9:=hiq (D7.out.both (s':=s.stp) (stp_k s).1 Z8.out C8.out hr9 hc9);have I9:=hiq (I8.out.chg hc9 (fun e=>by have:=D7.out.r.lt _ e;omega));have W9:=hiq (W8.out.chg hc9 (fun e=>(NX.out _ (by rw [←HSK.out.1];exact e)).2.2 rfl));have i9:=I9.out.cell 0;have zi9:=I9.out.lt;have w9c:=cells3 W9.out;have w90:=w9c.1;have w91:=w9c.2.1;have w92:=w9c.2.2;have zw9:=W9.out.lt;have fw9:=fun j=>W9.out.frozen j;have h90:=hr9.hd.cell 0;have zh9:=hr9.hd.lt;have hWI:W≠w7.heap.size∧w7.heap.size≠W∧Rb≠W:=⟨by have:=W7.out.lt;omega,by have:=W7.out.lt;omega,(NX.out Rb (.inl rfl)).2.2⟩;have hWI1:=hWI.1;have hWI2:=hWI.2.1;have hWI3:=hWI.2.2;have DW:=hiq (fun (w':World) (hc:Chg (fun b=>b=W) w9 w')=>(D9.out.other HWK2.out HKK'.out.2.2.1 hWW.1 hc).r);have LKs:=hiq (fun (w':World) (h':DM w' Rb X gt tcap p0 pt s.stp false L0' Lc')=>rlooks_any h'.r (show 0≤L0'∧L0'≤1000000000 by omega) (fun i hi=>by have:=hl9 i (by rw [← (stp_k s).1];exact hi);omega));rw [(stp_k s).1] at LKs;obtain ⟨lk,hlk⟩:=exq (L0'+sumI Lc' s.k);rw [←hlk] at LKs hs9;have hwv:IntKind.i64.wrap (lk-bf)=(sv:Int):=(by rw [IntKind.wrap_i64];have:=HBF.out;have:=HSV.out;omega);have HLK:=hiq hlk;have HS9:=hiq hs9;have HL9:=hiq hL9;have Hl9:=hiq hl9;clear w9c hr9 hs9 hL9 hl9 hc9 hlk h80 h81 zh8 hWI))
        | (go_at_call 9;((with_reducible refine (LKs.out _ (DW.out _ (by first|exact Chg.refl _ _|exact (Chg.refl _ _).set1 _ _|exact ((Chg.refl _ _).set1 _ _).set1 _ _|exact (((Chg.refl _ _).set1 _ _).set1 _ _).set1 _ _))).mono ?_);rintro e w' ⟨rfl,rfl⟩;(try dsimp only))))
       have hk9:=(stp_k s).1
       have hlkk:lk=L0'+sumI Lc' k:=by rw [HLK.out,HSK.out.1]
       have hbS:=hSB.out
       have hS4':=hS4.out
       have hs9:=HS9.out
       have hl9:=HL9.out
       have hsv:=HSV.out
       have hlkb:0≤lk∧lk≤1000000000:=by omega
       have hd:(0:Int)+(L0'+sumI Lc' k-lk)=0:=by omega
       refine HQ.out s.stp _ L0' Lc' lk 0 (sv:Int) 1 _ _ _ _ _ _ _ _ _ _ _ _ _ _ _ _ _ _ _ _ _ _ _ _ _ _ _ _ _ _ _ _ _ _ _ _ _ _ _ _ _ _ _ _ _ _ _ _ _ _ _ _ _ _ _ _ _ _ _ _ _ _ _ _ _ _ _ _ _ _ _ _ _ _ _ _ _ _ _ _ _ _ _ _ _ _ _ _ _ _ _ _ _ _ _ _ _ _ _ _ _ _ _ _ _ _ _ _ _ _ _ _ _ _ _ _ _ _ _ _ _ _ _ _ _ _ _ _ _ _ _ _ _ _ _ _ _ _ _ _ _ _ _ _ _ _ _ _ _ _ _ _ _ _ _ _ _ _ _ _ _ _ _ _ _ _ _ _ _ _ _ _ _ _ _ _ _ _ _ _ _ _ _ _ _ _ _ _ _ _ _ _ _ _ _ _ _ _ _ _ _ _ _ _ _ _ _ _ _ _ _ _ _ _ _ _ _ _ _ _ _ _ _ _ _ _ _ _ _ _ _ _ _ _ _ _ _ _ _ _ _ _ _ _ _ _ _ _ _ _ _ _ _ _ _ _ _ _ _ _ _ _ _ _ _ _ _ _ _ _ ⟨D9.out.other HWK2.out HKK'.out.2.2.1 hWW.1 (((Chg.refl _ _).set1 _ _).set1 _ _),(W9.out.set 2 _).set 1 _,HYS.out.more (by omega),⟨hk9.trans HSK.out.1,(stp_k s).2.1.trans HSK.out.2.1,(stp_k s).2.2.trans HSK.out.2.2⟩,?_,?_,by omega,by omega,by omega,hlkb,by omega,fun i hi=>?_⟩
       · rw [hd];simpa using HCS2.out
       · rw [hd];omega
       · have:=Hl9.out i (by rw [HSK.out.1];exact hi);omega
     · rw [decide_eq_false hl] at ST CT
       rw [if_neg hl] at HCS2
       obtain rfl:sv=0:=by omega
       clear hl hlx
       go_wp2_with (first
        | (go_at_call 28;((with_reducible refine (CT.out _ (D7.out.z.keepP _) (D7.out.b5.alloc _) (D7.out.b8.alloc _) (Blk.new _ _ _)).mono ?_);rintro e w8 ⟨rfl,hz8,hI8,hc8⟩;(try dsimp only);have Z8:=hiq (show D1s w8 D s.stp false M (s.stpM mt0) K' E w0 from hz8.keep (Below.refl _ _) (fun b e => .inl (.inl e)));have C8:=hiq (show Chg (KC K' w0.heap.size) w7 w8 from ((Chg.refl _ w7).alloc _).trans' hc8 (fun c hc e=>by rcases e with e|e;exact ⟨e.1,fun k=>e.2 (.inl k)⟩;omega));have I8:=hiq hI8;have R8:=hiq (D7.out.keptM C8.out).1;have W8:=hiq (W7.out.chg C8.out (fun e=>e.2 HKK'.out.2.2.1));have h80:=R8.out.hd.cell 0;have h81:=R8.out.hd.cell 1;rw [←HBI.out] at h81;have zh8:=R8.out.hd.lt;clear hz8 hI8 hc8))
        | (go_at_call 31;((with_reducible refine (ST.out _ R8.out).mono ?_);rintro e w9 ⟨L0',Lc',rfl,hr9,hs9,hL9,hl9,hc9⟩;(try dsimp only);have D9:=hiq (D7.out.both (s':=s.stp) (stp_k s).1 Z8.out C8.out hr9 hc9);have I9:=hiq (I8.out.chg hc9 (fun e=>by have:=D7.out.r.lt _ e;omega));have W9:=hiq (W8.out.chg hc9 (fun e=>(NX.out _ (by rw [←HSK.out.1];exact e)).2.2 rfl));have i9:=I9.out.cell 0;have zi9:=I9.out.lt;have w9c:=cells3 W9.out;have w90:=w9c.1;have w91:=w9c.2.1;have w92:=w9c.2.2;have zw9:=W9.out.lt;have fw9:=fun j=>W9.out.frozen j;have h90:=hr9.hd.cell 0;have zh9:=hr9.hd.lt;have hWI:W≠w7.heap.size∧w7.heap.size≠W∧Rb≠W:=⟨by have:=W7.out.lt;omega,by have:=W7.out.lt;omega,(NX.out Rb (.inl rfl)).2.2⟩;have hWI1:=hWI.1;have hWI2:=hWI.2.1;have hWI3:=hWI.2.2;have DW:=hiq (fun (w':World) (hc:Chg (fun b=>b=W) w9 w')=>(D9.out.other HWK2.out HKK'.out.2.2.1 hWW.1 hc).r);have LKs:=hiq (fun (w':World) (h':DM w' Rb X gt tcap p0 pt s.stp false L0' Lc')=>rlooks_any h'.r (show 0≤L0'∧L0'≤1000000000 by omega) (fun i hi=>by have:=hl9 i (by rw [← (stp_k s).1];exact hi);omega));rw [(stp_k s).1] at LKs;obtain ⟨lk,hlk⟩:=exq (L0'+sumI Lc' s.k);rw [←hlk] at LKs hs9;have hwv:IntKind.i64.wrap (lk-bf)=(0:Int):=(by rw [IntKind.wrap_i64];have:=HBF.out;have:=HSV.out;omega);have HLK:=hiq hlk;have HS9:=hiq hs9;have HL9:=hiq hL9;have Hl9:=hiq hl9;clear w9c hr9 hs9 hL9 hl9 hc9 hlk h80 h81 zh8 hWI))
        | (go_at_call 9;((with_reducible refine (LKs.out _ (DW.out _ (by first|exact Chg.refl _ _|exact (Chg.refl _ _).set1 _ _|exact ((Chg.refl _ _).set1 _ _).set1 _ _|exact (((Chg.refl _ _).set1 _ _).set1 _ _).set1 _ _))).mono ?_);rintro e w' ⟨rfl,rfl⟩;(try dsimp only))))
       have hk9:=(stp_k s).1
       have hlkk:lk=L0'+sumI Lc' k:=by rw [HLK.out,HSK.out.1]
       have hbS:=hSB.out
       have hS4':=hS4.out
       have hs9:=HS9.out
       have hl9:=HL9.out
       have hsv:=HSV.out
       have hlkb:0≤lk∧lk≤1000000000:=by omega
       have hd:(0:Int)+(L0'+sumI Lc' k-lk)=0:=by omega
       refine HQ.out s.stp _ L0' Lc' lk 0 0 0 _ _ _ _ _ _ _ _ _ _ _ _ _ _ _ _ _ _ _ _ _ _ _ _ _ _ _ _ _ _ _ _ _ _ _ _ _ _ _ _ _ _ _ _ _ _ _ _ _ _ _ _ _ _ _ _ _ _ _ _ _ _ _ _ _ _ _ _ _ _ _ _ _ _ _ _ _ _ _ _ _ _ _ _ _ _ _ _ _ _ _ _ _ _ _ _ _ _ _ _ _ _ _ _ _ _ _ _ _ _ _ _ _ _ _ _ _ _ _ _ _ _ _ _ _ _ _ _ _ _ _ _ _ _ _ _ _ _ _ _ _ _ _ _ _ _ _ _ _ _ _ _ _ _ _ _ _ _ _ _ _ _ _ _ _ _ _ _ _ _ _ _ _ _ _ _ _ _ _ _ _ _ _ _ _ _ _ _ _ _ _ _ _ _ _ _ _ _ _ _ _ _ _ _ _ _ _ _ _ _ _ _ _ _ _ _ _ _ _ _ _ _ _ _ _ _ _ _ _ _ _ _ _ _ _ _ _ _ _ _ _ _ _ _ _ _ _ _ _ _ _ _ _ _ _ _ _ _ _ _ _ _ _ _ _ _ _ _ _ _ ⟨D9.out.other HWK2.out HKK'.out.2.2.1 hWW.1 (Chg.refl _ _),W9.out,HYS.out.more (by omega),⟨hk9.trans HSK.out.1,(stp_k s).2.1.trans HSK.out.2.1,(stp_k s).2.2.trans HSK.out.2.2⟩,?_,?_,by omega,by omega,by omega,hlkb,by omega,fun i hi=>?_⟩
       · rw [hd];simpa using HCS2.out
       · rw [hd];omega
       · have:=Hl9.out i (by rw [HSK.out.1];exact hi);omega
   · have hl:0<s.left:=by omega
     rw [if_neg hb] at HCS2
     rw [decide_eq_true hl] at ST CT
     rw [if_pos hl] at HCS2
     have hbi0:bI > 0:=by omega
     have hbi2:decide (bI > 0)=true:=by simpa using hbi0
     have hbi3:decide (0<bI)=true:=by simpa using hbi0
     clear hl hlx hbI hb hbl
     go_wp2_with (first
      | (go_at_call 28;((with_reducible refine (CT.out _ (D7.out.z.keepP _) (D7.out.b5.alloc _) (D7.out.b8.alloc _) (Blk.new _ _ _)).mono ?_);rintro e w8 ⟨rfl,hz8,hI8,hc8⟩;(try dsimp only);have Z8:=hiq (show D1s w8 D s.stp false M (s.stpM mt0) K' E w0 from hz8.keep (Below.refl _ _) (fun b e => .inl (.inl e)));have C8:=hiq (show Chg (KC K' w0.heap.size) w7 w8 from ((Chg.refl _ w7).alloc _).trans' hc8 (fun c hc e=>by rcases e with e|e;exact ⟨e.1,fun k=>e.2 (.inl k)⟩;omega));have I8:=hiq hI8;have R8:=hiq (D7.out.keptM C8.out).1;have W8:=hiq (W7.out.chg C8.out (fun e=>e.2 HKK'.out.2.2.1));have h80:=R8.out.hd.cell 0;have h81:=R8.out.hd.cell 1;rw [←HBI.out] at h81;have zh8:=R8.out.hd.lt;clear hz8 hI8 hc8))
      | (go_at_call 31;((with_reducible refine (ST.out _ R8.out).mono ?_);rintro e w9 ⟨L0',Lc',rfl,hr9,hs9,hL9,hl9,hc9⟩;(try dsimp only);have D9:=hiq (D7.out.both (s':=s.stp) (stp_k s).1 Z8.out C8.out hr9 hc9);have I9:=hiq (I8.out.chg hc9 (fun e=>by have:=D7.out.r.lt _ e;omega));have W9:=hiq (W8.out.chg hc9 (fun e=>(NX.out _ (by rw [←HSK.out.1];exact e)).2.2 rfl));have i9:=I9.out.cell 0;have zi9:=I9.out.lt;have w9c:=cells3 W9.out;have w90:=w9c.1;have w91:=w9c.2.1;have w92:=w9c.2.2;have zw9:=W9.out.lt;have fw9:=fun j=>W9.out.frozen j;have h90:=hr9.hd.cell 0;have zh9:=hr9.hd.lt;have hWI:W≠w7.heap.size∧w7.heap.size≠W∧Rb≠W:=⟨by have:=W7.out.lt;omega,by have:=W7.out.lt;omega,(NX.out Rb (.inl rfl)).2.2⟩;have hWI1:=hWI.1;have hWI2:=hWI.2.1;have hWI3:=hWI.2.2;have DW:=hiq (fun (w':World) (hc:Chg (fun b=>b=W) w9 w')=>(D9.out.other HWK2.out HKK'.out.2.2.1 hWW.1 hc).r);have LKs:=hiq (fun (w':World) (h':DM w' Rb X gt tcap p0 pt s.stp false L0' Lc')=>rlooks_any h'.r (show 0≤L0'∧L0'≤1000000000 by omega) (fun i hi=>by have:=hl9 i (by rw [← (stp_k s).1];exact hi);omega));rw [(stp_k s).1] at LKs;obtain ⟨lk,hlk⟩:=exq (L0'+sumI Lc' s.k);rw [←hlk] at LKs hs9;have hwv:IntKind.i64.wrap (lk-bf)=(sv:Int):=(by rw [IntKind.wrap_i64];have:=HBF.out;have:=HSV.out;omega);have HLK:=hiq hlk;have HS9:=hiq hs9;have HL9:=hiq hL9;have Hl9:=hiq hl9;clear w9c hr9 hs9 hL9 hl9 hc9 hlk h80 h81 zh8 hWI))
      | (go_at_call 9;((with_reducible refine (LKs.out _ (DW.out _ (by first|exact Chg.refl _ _|exact (Chg.refl _ _).set1 _ _|exact ((Chg.refl _ _).set1 _ _).set1 _ _|exact (((Chg.refl _ _).set1 _ _).set1 _ _).set1 _ _))).mono ?_);rintro e w' ⟨rfl,rfl⟩;(try dsimp only))))
     have hk9:=(stp_k s).1
     have hlkk:lk=L0'+sumI Lc' k:=by rw [HLK.out,HSK.out.1]
     have hbS:=hSB.out
     have hS4':=hS4.out
     have hs9:=HS9.out
     have hl9:=HL9.out
     have hsv:=HSV.out
     have hlkb:0≤lk∧lk≤1000000000:=by omega
     have hd:(0:Int)+(L0'+sumI Lc' k-lk)=0:=by omega
     refine HQ.out s.stp _ L0' Lc' lk 0 1 1 _ _ _ _ _ _ _ _ _ _ _ _ _ _ _ _ _ _ _ _ _ _ _ _ _ _ _ _ _ _ _ _ _ _ _ _ _ _ _ _ _ _ _ _ _ _ _ _ _ _ _ _ _ _ _ _ _ _ _ _ _ _ _ _ _ _ _ _ _ _ _ _ _ _ _ _ _ _ _ _ _ _ _ _ _ _ _ _ _ _ _ _ _ _ _ _ _ _ _ _ _ _ _ _ _ _ _ _ _ _ _ _ _ _ _ _ _ _ _ _ _ _ _ _ _ _ _ _ _ _ _ _ _ _ _ _ _ _ _ _ _ _ _ _ _ _ _ _ _ _ _ _ _ _ _ _ _ _ _ _ _ _ _ _ _ _ _ _ _ _ _ _ _ _ _ _ _ _ _ _ _ _ _ _ _ _ _ _ _ _ _ _ _ _ _ _ _ _ _ _ _ _ _ _ _ _ _ _ _ _ _ _ _ _ _ _ _ _ _ _ _ _ _ _ _ _ _ _ _ _ _ _ _ _ _ _ _ _ _ _ _ _ _ _ _ _ _ _ _ _ _ _ _ _ _ _ _ _ _ _ _ _ _ _ _ _ _ _ _ _ ⟨D9.out.other HWK2.out HKK'.out.2.2.1 hWW.1 ((((Chg.refl _ _).set1 _ _).set1 _ _).set1 _ _),((W9.out.set 2 _).set 1 _).set 1 _,HYS.out.more (by omega),⟨hk9.trans HSK.out.1,(stp_k s).2.1.trans HSK.out.2.1,(stp_k s).2.2.trans HSK.out.2.2⟩,?_,?_,by omega,by omega,by omega,hlkb,by omega,fun i hi=>?_⟩
     · rw [hd];simpa using HCS2.out
     · rw [hd];omega
     · have:=Hl9.out i (by rw [HSK.out.1];exact hi);omega
 · have CT:=hiq (fun (w':World) (h':D1s w' D s false M mt0 K' E w0) (h5:Blk w' B5 28 #[.pointer (some ⟨D,0,none⟩)]) (h8:Blk w' B8 32 #[.pointer (some ⟨M,0,none⟩)])=>dcatch_bad (BI:=w7.heap.size) h' h5 h8 hb0 hnx hne (fun w2 hb2=>(HE.out.ec.below hb2) 10 (by decide)))
   have ST:=hiq (fun (w':World) (h':DM w' Rb X gt tcap p0 pt s false L0 Lc)=>h'.stpBad hb0 hnx hne hL8 (10000*(j:Int)) (by omega) hLcs)
   have NU:=hiq (fun (w':World) (h':ErrsAre w' E)=>(show Calls Tryz.prog 14 #[errAt E 10] w' fun e w''=>e = .returned (.int .i64 10)∧Below w'.heap.size w' w'' from num_any E 10 (by omega) w' h'))
   unfold errAt at CT NU
   have DXZ:=hiq (show ∀b,DMX Rb X p0 pt s.k b→w0.heap.size≤b from fun b hb=>(D7.out.n.2.2.2.2.2 b hb).1)
   clear hb0 hnx hne hLcs
   go_wp2_with (first
    | (go_at_call 28;((with_reducible refine (CT.out _ (D7.out.z.later ((Below.refl _ _).alloc (Nat.le_refl _) _)) (D7.out.b5.alloc _) (D7.out.b8.alloc _)).mono ?_);rintro e w8 ⟨rfl,hc8⟩;(try dsimp only);have C8:=hiq (show Chg (KC K' w0.heap.size) w7 w8 from ((Chg.refl _ w7).alloc _).trans hc8);have R8:=hiq (D7.out.keptM C8.out).1;have B8w:=hiq (D7.out.z.bel.trans (C8.out.below D7.out.z.bel.size (fun k hk e=>by have:=e.1;omega)));have h80:=R8.out.hd.cell 0;have h81:=R8.out.hd.cell 1;have zh8:=R8.out.hd.lt;clear hc8))
    | (go_at_call 31;((with_reducible refine (ST.out _ R8.out).mono ?_);rintro e w9 ⟨rfl,hc9⟩;(try dsimp only);have B9:=hiq (B8w.out.trans (hc9.below B8w.out.size (fun b hb e=>by have:=DXZ.out b e;omega)));clear hc9))
    | (go_at_call 14;((with_reducible refine (NU.out _ (HE.out.below B9.out)).mono ?_);rintro e w10 ⟨rfl,hb10⟩;(try dsimp only))))
   exact HR.out _ _ _ _ _ _ _ _ _ _ _ _ _ _ _ _ _ _ _ _ _ _ _ _ _ _ _ _ _ _ _ _ _ _ _ _ _ _ _ _ _ _ _ _ _ _ _ _ _ _ _ _ _ _ _ _ _ _ _ _ _ _ _ _ _ _ _ _ _ _ _ _ _ _ _ _ _ _ _ _ _ _ _ _ _ _ _ _ _ _ _ _ _ _ _ _ _ _ _ _ _ _ _ _ _ _ _ _ _ _ _ _ _ _ _ _ _ _ _ _ _ _ _ _ _ _ _ _ _ _ _ _ _ _ _ _ _ _ _ _ _ _ _ _ _ _ _ _ _ _ _ _ _ _ _ _ _ _ _ _ _ _ _ _ _ _ _ _ _ _ _ _ _ _ _ _ _ _ _ _ _ _ _ _ _ _ _ _ _ _ _ _ _ _ _ _ _ _ _ _ _ _ _ _ _ _ _ _ _ _ _ _ _ _ _ _ _ _ _ _ _ _ _ _ _ _ _ _ _ _ _ _ _ _ _ _ _ _ _ _ _ _ _ _ _ _ _ _ _ _ _ _ _ _ _ _ _ _ _ _ _ _ _ _ _ _ _ _ _ _ (B9.out.trans (hb10.mono B9.out.size))
theorem daK:Code.wp Tryz.prog daBlk Q a w7:=by
 by_cases q0k:kd=0
 · exact daK0 F ha hQ hPan hR q0k
 by_cases q1k:kd=1
 · exact daK1 F ha hQ hPan hR q1k
 by_cases q2k:kd=2
 · exact daK2 F ha hQ hPan hR q2k
 by_cases q3k:kd=3
 · exact daK3 F ha hQ hPan hR q3k
 by_cases q4k:kd=4
 · exact daK4 F ha hQ hPan hR q4k
 by_cases q5k:kd=5
 · exact daK5 F ha hQ hPan hR q5k
 · exact daK6 F ha hQ hPan hR ⟨by simpa using q0k,by simpa using q1k,by simpa using q2k,by simpa using q3k,by simpa using q4k,by simpa using q5k⟩
end
end Go.Proofs.YtcnkgiapidlbkaaGreatDoor
