/- Texts of this proof, joined by pack.py. -/
import Derived.Test.YtkhjeeakflefjaaGreatDoorPkKw4
import Derived.Test.YtkhjeeakflefjaaGreatDoorCards
import Derived.Test.YtkhjeeakflefjaaGreatDoorChecked
import Derived.Test.YtkhjeeakflefjaaGreatDoorProg
import Derived.Test.YtkhjeeakflefjaaGreatDoorRows
import Derived.Test.YtkhjeeakflefjaaGreatDoorTie
set_option linter.unusedVariables false
set_option linter.unusedSimpArgs false
namespace Go.Proofs.YtkhjeeakflefjaaGreatDoor
open Go.X
structure Arr3_List_UInt8 where
 e0:List UInt8
 e1:List UInt8
 e2:List UInt8
def Arr3_List_UInt8.list(a:Arr3_List_UInt8):List (List UInt8):=[a.e0,a.e1,a.e2]
def Arr3_List_UInt8.of:List (List UInt8)→Option Arr3_List_UInt8
 | [x0,x1,x2]=>some ⟨x0,x1,x2⟩
 | _=>none
def Arr3_List_UInt8.get(a:Arr3_List_UInt8)(i:Int):Option (List UInt8):=idx a.list i
def Arr3_List_UInt8.set(a:Arr3_List_UInt8)(i:Int)(x:List UInt8):Option Arr3_List_UInt8:=(setI a.list i x).bind Arr3_List_UInt8.of
structure Pair where
 From:List UInt8
 To:List UInt8
def qcm(rQ9:List (Part)→Option (List (Part)))(N:Nat)(x22:Part)(out_68:List (Part))(x_69:Int):Option (((List (Part))×Int)⊕(((List (Part))))):=
 bif (decide (x_69<(x22.Cases.length:Int))) then
  (idx x22.Cases x_69).bind λx76=>
  (rQ9 x76.Parts).bind λr89=>
  (app out_68 r89).bind λl94=>
  some (.inl (l94,(x_69+1)))
 else
  some (.inr out_68)
def qfH(rQ9:List (Part)→Option (List (Part)))(N:Nat)(x22:Part)(out_127:List (Part))(x_128:Int):Option (((List (Part))×Int)⊕(((List (Part))))):=
 bif (decide (x_128<(x22.Cases.length:Int))) then
  (idx x22.Cases x_128).bind λx135=>
  (rQ9 x135.Parts).bind λr148=>
  (app out_127 r148).bind λl153=>
  some (.inl (l153,(x_128+1)))
 else
  some (.inr out_127)
def qfJ(rQ9:List (Part)→Option (List (Part)))(N:Nat)(x22:Part)(out_186:List (Part))(x_187:Int):Option (((List (Part))×Int)⊕(((List (Part))))):=
 bif (decide (x_187<(x22.Cases.length:Int))) then
  (idx x22.Cases x_187).bind λx194=>
  (rQ9 x194.Parts).bind λr207=>
  (app out_186 r207).bind λl212=>
  some (.inl (l212,(x_187+1)))
 else
  some (.inr out_186)
def qdh(rQ9:List (Part)→Option (List (Part)))(N:Nat)(parts_0:List (Part))(out_14:List (Part))(x_15:Int):Option (((List (Part))×Int)⊕(((List (Part))))):=
 bif (decide (x_15<(parts_0.length:Int))) then
  (idx parts_0 x_15).bind λx22=>
  bif (x22.Kind != 1) then
   bif (x22.Kind != 11) then
    (show Option ((List (Part))) from
     bif (x22.Kind != 10) then
      (app out_14 ([(Part.mk x22.Kind ([]) x22.Name x22.Style ([]) ([]))]:List (Part))).bind λl50=>
      some l50
     else
      some out_14).bind λo42=>
    (iter (λs=>qcm rQ9 N x22 s.1 s.2) N (o42,0)).bind λo62=>
    (rQ9 x22.Parts).bind λr103=>
    (app o62 r103).bind λl108=>
    some (.inl (l108,(x_15+1)))
   else
    (iter (λs=>qfH rQ9 N x22 s.1 s.2) N (out_14,0)).bind λo121=>
    (rQ9 x22.Parts).bind λr162=>
    (app o121 r162).bind λl167=>
    some (.inl (l167,(x_15+1)))
  else
   (iter (λs=>qfJ rQ9 N x22 s.1 s.2) N (out_14,0)).bind λo180=>
   (rQ9 x22.Parts).bind λr221=>
   (app o180 r221).bind λl226=>
   some (.inl (l226,(x_15+1)))
 else
  some (.inr out_14)
def qdC(rQ9:List (Part)→Option (List (Part)))(N:Nat)(parts_0:List (Part)):Option (List (Part)):=
 (iter (λs=>qdh rQ9 N parts_0 s.1 s.2) N ([],0)).bind λo8=>
 some o8
def qgJ:Nat→(List (Part)→Option (List (Part)))
 | 0=>(λ_=>none)
 | N+1=>(qdC (qgJ N) N)
def qbE(N:Nat):List (Part)→Option (List (Part)):=(qgJ N)
def qd3(_N:Nat)(r7:(List (Part)))(r12:(List (Part)))(out_48:List (Pair))(x_49:Int)(to_50:List (List UInt8×List UInt8))(from_51:List (List UInt8×List UInt8)):Option (((List (Pair))×Int×(List (List UInt8×List UInt8))×(List (List UInt8×List UInt8)))⊕((((List (Pair)))⊕((List (Pair))×Bool)))):=
 bif (decide (x_49<(r7.length:Int))) then
  (idx r7 x_49).bind λx63=>
  (idx r12 x_49).bind λx80=>
  (idx r7 x_49).bind λx107=>
  (idx r12 x_49).bind λx124=>
  bif (x107.Kind != x124.Kind) then
   some (.inr (.inr ([],false)))
  else
   (idx r7 x_49).bind λx142=>
   (idx r12 x_49).bind λx159=>
   bif (x142.Style != x159.Style) then
    some (.inr (.inr ([],false)))
   else
    bif (mget to_50 x63.Name).isSome then
     bif (((mget to_50 x63.Name).getD [])!=x80.Name) then
      some (.inr (.inr ([],false)))
     else
      bif (mget from_51 x80.Name).isSome then
       bif (((mget from_51 x80.Name).getD [])!=x63.Name) then
        some (.inr (.inr ([],false)))
       else
        (show Option ((List (Pair))) from
         bif (!((mget to_50 x63.Name).isSome)) then
          (app out_48 ([(Pair.mk x63.Name x80.Name)]:List (Pair))).bind λl189=>
          some l189
         else
          some out_48).bind λo181=>
        (mset to_50 x63.Name x80.Name).bind λl197=>
        (mset from_51 x80.Name x63.Name).bind λl201=>
        some (.inl (o181,(x_49+1),l197,l201))
      else
       (show Option ((List (Pair))) from
        bif (!((mget to_50 x63.Name).isSome)) then
         (app out_48 ([(Pair.mk x63.Name x80.Name)]:List (Pair))).bind λl213=>
         some l213
        else
         some out_48).bind λo205=>
       (mset to_50 x63.Name x80.Name).bind λl221=>
       (mset from_51 x80.Name x63.Name).bind λl225=>
       some (.inl (o205,(x_49+1),l221,l225))
    else
     bif (mget from_51 x80.Name).isSome then
      bif (((mget from_51 x80.Name).getD [])!=x63.Name) then
       some (.inr (.inr ([],false)))
      else
       (show Option ((List (Pair))) from
        bif (!((mget to_50 x63.Name).isSome)) then
         (app out_48 ([(Pair.mk x63.Name x80.Name)]:List (Pair))).bind λl239=>
         some l239
        else
         some out_48).bind λo231=>
       (mset to_50 x63.Name x80.Name).bind λl247=>
       (mset from_51 x80.Name x63.Name).bind λl251=>
       some (.inl (o231,(x_49+1),l247,l251))
     else
      (show Option ((List (Pair))) from
       bif (!((mget to_50 x63.Name).isSome)) then
        (app out_48 ([(Pair.mk x63.Name x80.Name)]:List (Pair))).bind λl263=>
        some l263
       else
        some out_48).bind λo255=>
      (mset to_50 x63.Name x80.Name).bind λl271=>
      (mset from_51 x80.Name x63.Name).bind λl275=>
      some (.inl (o255,(x_49+1),l271,l275))
 else
  some (.inr (.inl out_48))
def qfy(N:Nat)(a_0:List (Part))(b_1:List (Part)):Option ((List (Pair))×Bool):=
 (qev N a_0).bind λr1=>
 bif (!r1) then
  some ([],false)
 else
  (qev N b_1).bind λr4=>
  bif (!r4) then
   some ([],false)
  else
   (qbE N a_0).bind λr7=>
   (qbE N b_1).bind λr12=>
   bif ((r7.length:Int)!=(r12.length:Int)) then
    some ([],false)
   else
    (iter (λs=>qd3 N r7 r12 s.1 s.2.1 s.2.2.1 s.2.2.2) N ([],0,([]:List (List UInt8×List UInt8)),([]:List (List UInt8×List UInt8)))).bind λo37=>
    Sum.elim (λo37=>
     some (o37,true))
    (λo37=>
     some o37) o37
def qdj(rQ11:List (Part)→List (List UInt8×List UInt8)→Option ((List (Part))×Bool))(N:Nat)(x0:List (List UInt8×List UInt8))(o42:Part)(cases_81:List (Case))(x_82:Int):Option (((List (Case))×Int)⊕((((List (Case)))⊕((List (Part))×Bool)))):=
 bif (decide (x_82<(o42.Cases.length:Int))) then
  (idx o42.Cases x_82).bind λx89=>
  (rQ11 x89.Parts x0).bind λr102=>
  bif (!r102.2) then
   some (.inr (.inr ([],false)))
  else
   (app cases_81 ([(Case.mk x89.Key r102.1)]:List (Case))).bind λl111=>
   some (.inl (l111,(x_82+1)))
 else
  some (.inr (.inl cases_81))
def qgM(rQ11:List (Part)→List (List UInt8×List UInt8)→Option ((List (Part))×Bool))(N:Nat)(x0:List (List UInt8×List UInt8))(x22:Part)(cases_155:List (Case))(x_156:Int):Option (((List (Case))×Int)⊕((((List (Case)))⊕((List (Part))×Bool)))):=
 bif (decide (x_156<(x22.Cases.length:Int))) then
  (idx x22.Cases x_156).bind λx163=>
  (rQ11 x163.Parts x0).bind λr176=>
  bif (!r176.2) then
   some (.inr (.inr ([],false)))
  else
   (app cases_155 ([(Case.mk x163.Key r176.1)]:List (Case))).bind λl185=>
   some (.inl (l185,(x_156+1)))
 else
  some (.inr (.inl cases_155))
def qgL(rQ11:List (Part)→List (List UInt8×List UInt8)→Option ((List (Part))×Bool))(N:Nat)(x0:List (List UInt8×List UInt8))(x22:Part)(cases_229:List (Case))(x_230:Int):Option (((List (Case))×Int)⊕((((List (Case)))⊕((List (Part))×Bool)))):=
 bif (decide (x_230<(x22.Cases.length:Int))) then
  (idx x22.Cases x_230).bind λx237=>
  (rQ11 x237.Parts x0).bind λr250=>
  bif (!r250.2) then
   some (.inr (.inr ([],false)))
  else
   (app cases_229 ([(Case.mk x237.Key r250.1)]:List (Case))).bind λl259=>
   some (.inl (l259,(x_230+1)))
 else
  some (.inr (.inl cases_229))
def qeh(rQ11:List (Part)→List (List UInt8×List UInt8)→Option ((List (Part))×Bool))(N:Nat)(parts_0:List (Part))(x0:List (List UInt8×List UInt8))(out_14:List (Part))(x_15:Int):Option (((List (Part))×Int)⊕((((List (Part)))⊕((List (Part))×Bool)))):=
 bif (decide (x_15<(parts_0.length:Int))) then
  (idx parts_0 x_15).bind λx22=>
  bif (x22.Kind != 1) then
   bif (x22.Kind != 11) then
    (show Option (Part⊕((List (Part))×Bool)) from
     bif (x22.Kind != 10) then
      bif (!((mget x0 x22.Name).isSome)) then
       some (.inr ([],false))
      else
       some (.inl (Part.mk x22.Kind x22.Text ((mget x0 x22.Name).getD []) x22.Style x22.Cases x22.Parts))
     else
      some (.inl x22)).bind λo42=>
    Sum.elim (λo42=>
     (iter (λs=>qdj rQ11 N x0 o42 s.1 s.2) N ([],0)).bind λo75=>
     Sum.elim (λo75=>
      (rQ11 o42.Parts x0).bind λr120=>
      bif (!r120.2) then
       some (.inr (.inr ([],false)))
      else
       (app out_14 ([(Part.mk o42.Kind o42.Text o42.Name o42.Style o75 r120.1)]:List (Part))).bind λl131=>
       some (.inl (l131,(x_15+1))))
     (λo75=>
      some (.inr (.inr o75))) o75)
    (λo42=>
     some (.inr (.inr o42))) o42
   else
    (iter (λs=>qgM rQ11 N x0 x22 s.1 s.2) N ([],0)).bind λo149=>
    Sum.elim (λo149=>
     (rQ11 x22.Parts x0).bind λr194=>
     bif (!r194.2) then
      some (.inr (.inr ([],false)))
     else
      (app out_14 ([(Part.mk x22.Kind x22.Text x22.Name x22.Style o149 r194.1)]:List (Part))).bind λl205=>
      some (.inl (l205,(x_15+1))))
    (λo149=>
     some (.inr (.inr o149))) o149
  else
   (iter (λs=>qgL rQ11 N x0 x22 s.1 s.2) N ([],0)).bind λo223=>
   Sum.elim (λo223=>
    (rQ11 x22.Parts x0).bind λr268=>
    bif (!r268.2) then
     some (.inr (.inr ([],false)))
    else
     (app out_14 ([(Part.mk x22.Kind x22.Text x22.Name x22.Style o223 r268.1)]:List (Part))).bind λl279=>
     some (.inl (l279,(x_15+1))))
   (λo223=>
    some (.inr (.inr o223))) o223
 else
  some (.inr (.inl out_14))
def qek(rQ11:List (Part)→List (List UInt8×List UInt8)→Option ((List (Part))×Bool))(N:Nat)(parts_0:List (Part))(x0:List (List UInt8×List UInt8)):Option ((List (Part))×Bool):=
 (iter (λs=>qeh rQ11 N parts_0 x0 s.1 s.2) N ([],0)).bind λo8=>
 Sum.elim (λo8=>
  some (o8,true))
 (λo8=>
  some o8) o8
def qhX:Nat→(List (Part)→List (List UInt8×List UInt8)→Option ((List (Part))×Bool))
 | 0=>(λ_ _=>none)
 | N+1=>(qek (qhX N) N)
def qco(N:Nat):List (Part)→List (List UInt8×List UInt8)→Option ((List (Part))×Bool):=(qhX N)
def qeQ(_N:Nat)(r47:(List (Pair))×Bool)(x_65:Int)(names_66:List (List UInt8×List UInt8)):Option ((Int×(List (List UInt8×List UInt8)))⊕(((List (List UInt8×List UInt8))))):=
 bif (decide (x_65<(r47.1.length:Int))) then
  (idx r47.1 x_65).bind λx72=>
  (mset names_66 x72.From x72.To).bind λl84=>
  some (.inl ((x_65+1),l84))
 else
  some (.inr names_66)
def qeV(N:Nat)(source_0:List UInt8)(target_1:List UInt8)(text_2:List UInt8):Option ((List UInt8)×Int):=
 (idx ([source_0,target_1,text_2]:List (List UInt8)) 0).bind λz2=>
 (qbN N z2).bind λr4=>
 bif (r4.2.2 != 0) then
  some ([],3)
 else
  (idx ([source_0,target_1,text_2]:List (List UInt8)) 1).bind λz17=>
  (qbN N z17).bind λr19=>
  bif (r19.2.2 != 0) then
   some ([],3)
  else
   (idx ([source_0,target_1,text_2]:List (List UInt8)) 2).bind λz32=>
   (qbN N z32).bind λr34=>
   bif (r34.2.2 != 0) then
    some ([],3)
   else
    (qfy N r4.1 r34.1).bind λr47=>
    (iter (λs=>qeQ N r47 s.1 s.2) N (0,([]:List (List UInt8×List UInt8)))).bind λo60=>
    (qco N r19.1 o60).bind λr92=>
    bif (!r47.2) then
     some ([],8)
    else
     bif (!r92.2) then
      some ([],8)
     else
      (qf6 N r92.1).bind λr99=>
      bif (r99.2 != 0) then
       some ([],6)
      else
       some (r99.1,0)
end Go.Proofs.YtkhjeeakflefjaaGreatDoor
namespace Go.Proofs.YtkhjeeakflefjaaGreatDoor
open Go.X
variable {u:World} {m0:Mem} {S:Segs} {w:World}
set_option maxHeartbeats 4000000
set_option maxRecDepth 100000
def qff:Rp Pair:=λ_ cs x=>cs=[.string (bs x.From),.string (bs x.To)]∧x.From.length≤LIMS∧x.To.length≤LIMS
theorem ql9:Mono qff:=⟨λ_ h=>by
 obtain⟨e,h0,h1⟩:=h
 exact⟨e,h0,h1⟩,λh=>by
 obtain⟨rfl,h0,h1⟩:=h
 exact⟨rfl,rfl,trivial⟩⟩
theorem qvr:aggB Tryz.prog 68 2=true:=by kernel_rfl
theorem qj5:ArT Tryz.prog 61 38 3 1:=ArT.of (by kernel_rfl)
theorem qvh:ArT Tryz.prog 62 9 3 1:=ArT.of (by kernel_rfl)
theorem qtX:qa2 Tryz.prog 68 0 0=true:=by kernel_rfl
theorem qun:qa2 Tryz.prog 68 1 1=true:=by kernel_rfl
theorem qhq:goB Tryz.prog 11=true:=by kernel_rfl
theorem qvG:goB Tryz.prog 17=true:=by kernel_rfl
theorem qk1:goB Tryz.prog 18=true:=by kernel_rfl
theorem qwd:goB Tryz.prog 19=true:=by kernel_rfl
theorem qjy:goB Tryz.prog 33=true:=by kernel_rfl
theorem qu5:∃ i,Tryz.prog.info? 68=some i∧i.size=2:=⟨_,rfl,by kernel_rfl⟩
theorem qjv:qen Tryz.prog 68=some [(0,1),(1,1)]:=by kernel_rfl
theorem qhN:SlT Tryz.prog 63 68 2:=SlT.of (by kernel_rfl)
theorem qod:qjt Tryz.prog 9=some (vs ([])):=by kernel_rfl
theorem qub:qcp Tryz.prog 61=some [(Value.slice none 0 0),(Value.slice none 0 0),(Value.slice none 0 0)]:=by kernel_rfl
theorem qui:qcp Tryz.prog 62=some [(vs ([])),(vs ([])),(vs ([]))]:=by kernel_rfl
theorem qe1:qcp Tryz.prog 68=some [(vs ([])),(vs ([]))]:=by kernel_rfl
def qkn(u:World)(m0:Mem)(S:Segs)(r:(List (Part)))(a:Act)(w:World):Prop:=
 ∃ m1 v0,m0.le m1∧Ok u m1 S w∧a.defers=[]∧RVs Tryz.prog a w [.t 2 v0]∧(pL 6 qaS) m1 [v0] r
def qeG(N:Nat):Prop:=∀ {u:World} {m0:Mem} {S:Segs} {w:World} (vparts_0:Value) (parts_0:List (Part)) (hparts_0:(pL 6 qaS) m0 [vparts_0] parts_0) {r:(List (Part))} (hF:qbE N parts_0=some r) (hG:Glob u) (ok:Ok u m0 S w),Calls Tryz.prog 33 [vparts_0].toArray w λe w'=>∃ m1 v0,e=.returned v0∧m0.le m1∧Ok u m1 S w'∧(pL 6 qaS) m1 [v0] r
theorem qiS(N:Nat)(ih_memory_placeholders:qeG N):qeG (N+1):=by
 intro u m0 S w vparts_0 parts_0 hparts_0 r hF hG ok
 have le_m0:=Mem.le.refl m0
 have hF0:qdC (qbE N) N parts_0=some r:=hF
 have hF:=hF0
 clear hF0
 unfold qdC at hF
 refine en (qkn u m0 S) r Tryz.func33 rfl rfl rfl (λ_ _ h=>rc h λ_=>rfl) λfin a E=>sg<|aw E rfl λa E=>sg<|aw E rfl λa E=>wp_seq<|sg<|mv E rfl λa E=>lv E ok (qa8 qbG hparts_0 rfl) λa E=>mv E rfl λa E=>wn<|wp_block ?_
 obtain⟨M6,ok,h7⟩:=qd9 (e:=90) (k:=6) (R:=qaS) ok
 refine bd hF λo8 hL hF=>qbb _ (λ(s:(List (Part))×Int) a w=>∃ m9 c10 M11,m0.le m9∧Ok u m9 (M11::S) w∧Env 57 a [(3,c10),(8,vparts_0),(9,(vi (parts_0.length:Int))),(10,vi s.2)]∧ORow 90 6 qaS m9 c10 s.1 M11∧InR .i64 s.2) (λ(b:((List (Part)))) e a w=>e=(.exit 0)∧∃ m241 c242 M243,m0.le m241∧Ok u m241 (M243::S) w∧Env 57 a [(3,c242)]∧ORow 90 6 qaS m241 c242 b M243) ?_ ?_ N _ a w hL ⟨m0,(Value.slice none 0 0),M6,Mem.le.refl _,ok,E.keep [3,8,9,10],h7,(ir 0)⟩
 rotate_left
 ·intro e a w _ hO
  obtain⟨rfl,m235,c236,M237,hle,ok,E,h238⟩:=hO
  have le_m0:=le_m0.trans hle
  have hparts_0:=(mL qah).up hle hparts_0
  refine qbh<|qaa<|sg<|mv E rfl λa E=>aw E rfl λa E=>wp_ret ?_
  obtain⟨m239,hle,ok,hfz⟩:=(ok.frs 0 rfl).freeze
  have h240:=ORow.froz qah h238 hle hfz (by decide)
  have le_m0:=le_m0.trans hle
  have hparts_0:=(mL qah).up hle hparts_0
  exact fin hF ⟨m239,c236,le_m0,ok,E.d,rz E rfl,h240⟩
 rintro⟨v14,v15⟩ a w r ⟨m16,c17,M18,hle,ok,E,h19,r20⟩ hF
 replace hF:qdh (qbE N) N parts_0 v14 v15=some r:=hF
 unfold qdh at hF
 have le_m0:=le_m0.trans hle
 have hparts_0:=(mL qah).up hle hparts_0
 refine sg<|lw E (qaP rfl rfl) λa E=>wn<|wp_seq<|cg E rfl hF (λc21 hF=>?_) λc21 hF=>?_
 ·refine wp_exit<|qaM ?_
  cases hF
  exact so (⟨rfl,⟨m16,c17,M18,le_m0,ok,E.keep [3],h19⟩⟩)
 refine wp_skip<|qaa<|wp_seq<|wp_block<|sg ?_
 obtain⟨x22,e23,hF⟩:=bnd hF
 obtain⟨b24,o25,es26,hl27,rr28,at29,yy30⟩:=ia E 8 10 qbG hparts_0 e23
 obtain⟨c35,c37,rfl,r31,l32,l33,l34,h36,h38⟩:=(qbd.1 rr28)
 refine lv E ok (yy30 _ _) λa E=>lv E ok (qao (cs:=[vi x22.Kind,vs x22.Text,vs x22.Name,vs x22.Style,c35,c37]) qct rfl rfl (Holds.ro at29)) λa E=>qaL E ok qbw rfl rfl λb39 a w E ok=>qai E ok 0 rfl rfl rfl qel rfl rfl ⟨rfl,rfl,rfl,rfl,(qbT h36),(qbT h38),trivial⟩ rfl rfl λw ok=>wn<|wp_seq<|sg<|fk E ok qbm qaN rfl 0 rfl rfl λa E=>lw E (qbg rfl rfl) λa E=>mv E rfl λa E=>bw E 17 hF (λc40 hF E=>?_) λc40 hF E=>?_
 ·as_aux_lemma=>
   refine lsq E λa E=>ls E λa E=>pf E rfl rfl λa E=>mv E rfl λa E=>lsq E λa E=>ls E λa E=>pf E rfl rfl λa E=>wn<|c_if E rfl (λh=>by cases h) (λ_=>?_)
   refine wp_skip<|qaa<|wp_seq<|sg<|fk E ok qdN qfx rfl 0 rfl rfl λa E=>lv E ok (qa8 qch h36 rfl) λa E=>mv E rfl λa E=>wn<|wp_block<|bd hF λo180 hL hF=>qbb _ (λ(s:(List (Part))×Int) a w=>∃ m181 c182 M183,m16.le m181∧Ok u m181 ([(b39,oc 90 [vi x22.Kind,vs x22.Text,vs x22.Name,vs x22.Style,c35,c37])]::M183::S) w∧Env 57 a [(3,c182),(5,vp b39),(8,vparts_0),(9,(vi (parts_0.length:Int))),(10,vi v15),(38,c35),(39,(vi (x22.Cases.length:Int))),(40,vi s.2)]∧ORow 90 6 qaS m181 c182 s.1 M183∧InR .i64 s.2) (λ(b:((List (Part)))) e a w=>e=(.exit 2)∧∃ m231 c232 M233,m16.le m231∧Ok u m231 ([(b39,oc 90 [vi x22.Kind,vs x22.Text,vs x22.Name,vs x22.Style,c35,c37])]::M233::S) w∧Env 57 a [(3,c232),(5,vp b39),(8,vparts_0),(9,(vi (parts_0.length:Int))),(10,vi v15)]∧ORow 90 6 qaS m231 c232 b M233) ?_ ?_ N _ a w hL ⟨m16,c17,M18,Mem.le.refl _,ok,E.keep [3,5,8,9,10,38,39,40],h19,(ir 0)⟩
   rotate_left
   ·intro e a w _ hO
    obtain⟨rfl,m217,c218,M219,hle,ok,E,h220⟩:=hO
    have le_m0:=le_m0.trans hle
    have hparts_0:=(mL qah).up hle hparts_0
    have h36:=(mL qaE).up hle h36
    have h38:=(mL qah).up hle h38
    have at29:=At.up hle at29
    refine qbh<|qaa<|qab<|mv E rfl λa E=>fk E ok qc1 qcr rfl 0 rfl rfl λa E=>bd hF λr221 e222 hF=>qae E qjy rfl (ih_memory_placeholders _ x22.Parts h38 e222 hG ok) rfl rfl ?_
    rintro _ w ⟨m223,c224,rfl,hle,ok,h225⟩
    have le_m0:=le_m0.trans hle
    have hparts_0:=(mL qah).up hle hparts_0
    have h36:=(mL qaE).up hle h36
    have h38:=(mL qah).up hle h38
    have at29:=At.up hle at29
    have h220:=ORow.up qah hle h220
    refine⟨_,rfl,λa E=>?_⟩
    refine bd hF λl226 e227 hF=>qcf (R:=qaS) E ok 1 qah qbG Tryz.underlying38 rfl h220 (qbD.ofL h225 ok) e227 ⟨_,qbw,rfl⟩ rfl rfl rfl rfl λc228 M229 a w E ok h230=>av E rfl λa E=>wpList_nil<|qal<|qaa<|qab<|lw E (qaH rfl rfl (InR.inc r20 (qas hparts_0) c21)) λa E=>mv E rfl λa E=>wpList_nil ?_
    cases hF
    exact qau ⟨m223,c228,M229,le_m0,(ok.pk 2 [1] rfl (by decide)),E.keep [3,8,9,10],h230,(InR.inc r20 (qas hparts_0) c21)⟩
   rintro⟨v186,v187⟩ a w r ⟨m188,c189,M190,hle,ok,E,h191,r192⟩ hF
   replace hF:qfJ (qbE N) N x22 v186 v187=some r:=hF
   unfold qfJ at hF
   have le_m16:=Mem.le.refl m16
   have le_m0:=le_m0.trans hle
   have le_m16:=le_m16.trans hle
   have hparts_0:=(mL qah).up hle hparts_0
   have h36:=(mL qaE).up hle h36
   have h38:=(mL qah).up hle h38
   have at29:=At.up hle at29
   refine sg<|lw E (qaP rfl rfl) λa E=>wn<|wp_seq<|cg E rfl hF (λc193 hF=>?_) λc193 hF=>?_
   ·refine wp_exit<|qaM ?_
    cases hF
    exact so (⟨rfl,⟨m188,c189,M190,le_m16,ok,E.keep [3,5,8,9,10],h191⟩⟩)
   refine wp_skip<|qaa<|wp_seq<|wp_block<|sg ?_
   obtain⟨x194,e195,hF⟩:=bnd hF
   obtain⟨b196,o197,es198,hl199,rr200,at201,yy202⟩:=ia E 38 40 qch h36 e195
   obtain⟨c204,rfl,l203,h205⟩:=rr200
   refine lv E ok (yy202 _ _) λa E=>lv E ok (qao (cs:=[vs x194.Key,c204]) qfE rfl rfl (Holds.ro at201)) λa E=>qaL E ok qb0 rfl rfl λb206 a w E ok=>qai E ok 0 rfl rfl rfl qgc rfl rfl ⟨rfl,(qbT h205),trivial⟩ rfl rfl λw ok=>wn<|qab<|mv E rfl λa E=>fk E ok qeL qcr rfl 0 rfl rfl λa E=>bd hF λr207 e208 hF=>qae E qjy rfl (ih_memory_placeholders _ x194.Parts h205 e208 hG ok) rfl rfl ?_
   rintro _ w ⟨m209,c210,rfl,hle,ok,h211⟩
   have le_m0:=le_m0.trans hle
   have le_m16:=le_m16.trans hle
   have hparts_0:=(mL qah).up hle hparts_0
   have h36:=(mL qaE).up hle h36
   have h38:=(mL qah).up hle h38
   have at29:=At.up hle at29
   have h191:=ORow.up qah hle h191
   have h205:=(mL qah).up hle h205
   have at201:=At.up hle at201
   refine⟨_,rfl,λa E=>?_⟩
   refine bd hF λl212 e213 hF=>qcf (R:=qaS) E ok 2 qah qbG Tryz.underlying38 rfl h191 (qbD.ofL h211 ok) e213 ⟨_,qbw,rfl⟩ rfl rfl rfl rfl λc214 M215 a w E ok h216=>av E rfl λa E=>wpList_nil<|qal<|qaa<|qab<|lw E (qaH rfl rfl (InR.inc r192 (qas h36) c193)) λa E=>mv E rfl λa E=>wpList_nil ?_
   cases hF
   exact qau ⟨m209,c214,M215,le_m16,(ok.pk 3 [1,2] rfl (by decide)),E.keep [3,5,8,9,10,38,39,40],h216,(InR.inc r192 (qas h36) c193)⟩
 refine fk E ok qbm qaN rfl 0 rfl rfl λa E=>lw E (qbg rfl rfl) λa E=>pt E rfl rfl λa E=>mv E rfl λa E=>bw E 22 hF (λc41 hF E=>?_) λc41 hF E=>?_
 ·as_aux_lemma=>
   refine lsq E λa E=>ls E λa E=>pf E rfl rfl λa E=>wn<|c_if E rfl (λh=>by cases h) (λ_=>?_)
   refine wp_skip<|qaa<|wp_seq<|sg<|fk E ok qdN qfx rfl 0 rfl rfl λa E=>lv E ok (qa8 qch h36 rfl) λa E=>mv E rfl λa E=>wn<|wp_block<|bd hF λo121 hL hF=>qbb _ (λ(s:(List (Part))×Int) a w=>∃ m122 c123 M124,m16.le m122∧Ok u m122 ([(b39,oc 90 [vi x22.Kind,vs x22.Text,vs x22.Name,vs x22.Style,c35,c37])]::M124::S) w∧Env 57 a [(3,c123),(5,vp b39),(8,vparts_0),(9,(vi (parts_0.length:Int))),(10,vi v15),(38,c35),(39,(vi (x22.Cases.length:Int))),(40,vi s.2)]∧ORow 90 6 qaS m122 c123 s.1 M124∧InR .i64 s.2) (λ(b:((List (Part)))) e a w=>e=(.exit 2)∧∃ m172 c173 M174,m16.le m172∧Ok u m172 ([(b39,oc 90 [vi x22.Kind,vs x22.Text,vs x22.Name,vs x22.Style,c35,c37])]::M174::S) w∧Env 57 a [(3,c173),(5,vp b39),(8,vparts_0),(9,(vi (parts_0.length:Int))),(10,vi v15)]∧ORow 90 6 qaS m172 c173 b M174) ?_ ?_ N _ a w hL ⟨m16,c17,M18,Mem.le.refl _,ok,E.keep [3,5,8,9,10,38,39,40],h19,(ir 0)⟩
   rotate_left
   ·intro e a w _ hO
    obtain⟨rfl,m158,c159,M160,hle,ok,E,h161⟩:=hO
    have le_m0:=le_m0.trans hle
    have hparts_0:=(mL qah).up hle hparts_0
    have h36:=(mL qaE).up hle h36
    have h38:=(mL qah).up hle h38
    have at29:=At.up hle at29
    refine qbh<|qaa<|qab<|mv E rfl λa E=>fk E ok qc1 qcr rfl 0 rfl rfl λa E=>bd hF λr162 e163 hF=>qae E qjy rfl (ih_memory_placeholders _ x22.Parts h38 e163 hG ok) rfl rfl ?_
    rintro _ w ⟨m164,c165,rfl,hle,ok,h166⟩
    have le_m0:=le_m0.trans hle
    have hparts_0:=(mL qah).up hle hparts_0
    have h36:=(mL qaE).up hle h36
    have h38:=(mL qah).up hle h38
    have at29:=At.up hle at29
    have h161:=ORow.up qah hle h161
    refine⟨_,rfl,λa E=>?_⟩
    refine bd hF λl167 e168 hF=>qcf (R:=qaS) E ok 1 qah qbG Tryz.underlying38 rfl h161 (qbD.ofL h166 ok) e168 ⟨_,qbw,rfl⟩ rfl rfl rfl rfl λc169 M170 a w E ok h171=>av E rfl λa E=>wpList_nil<|qal<|qaa<|qab<|lw E (qaH rfl rfl (InR.inc r20 (qas hparts_0) c21)) λa E=>mv E rfl λa E=>wpList_nil ?_
    cases hF
    exact qau ⟨m164,c169,M170,le_m0,(ok.pk 2 [1] rfl (by decide)),E.keep [3,8,9,10],h171,(InR.inc r20 (qas hparts_0) c21)⟩
   rintro⟨v127,v128⟩ a w r ⟨m129,c130,M131,hle,ok,E,h132,r133⟩ hF
   replace hF:qfH (qbE N) N x22 v127 v128=some r:=hF
   unfold qfH at hF
   have le_m16:=Mem.le.refl m16
   have le_m0:=le_m0.trans hle
   have le_m16:=le_m16.trans hle
   have hparts_0:=(mL qah).up hle hparts_0
   have h36:=(mL qaE).up hle h36
   have h38:=(mL qah).up hle h38
   have at29:=At.up hle at29
   refine sg<|lw E (qaP rfl rfl) λa E=>wn<|wp_seq<|cg E rfl hF (λc134 hF=>?_) λc134 hF=>?_
   ·refine wp_exit<|qaM ?_
    cases hF
    exact so (⟨rfl,⟨m129,c130,M131,le_m16,ok,E.keep [3,5,8,9,10],h132⟩⟩)
   refine wp_skip<|qaa<|wp_seq<|wp_block<|sg ?_
   obtain⟨x135,e136,hF⟩:=bnd hF
   obtain⟨b137,o138,es139,hl140,rr141,at142,yy143⟩:=ia E 38 40 qch h36 e136
   obtain⟨c145,rfl,l144,h146⟩:=rr141
   refine lv E ok (yy143 _ _) λa E=>lv E ok (qao (cs:=[vs x135.Key,c145]) qfE rfl rfl (Holds.ro at142)) λa E=>qaL E ok qb0 rfl rfl λb147 a w E ok=>qai E ok 0 rfl rfl rfl qgc rfl rfl ⟨rfl,(qbT h146),trivial⟩ rfl rfl λw ok=>wn<|qab<|mv E rfl λa E=>fk E ok qeL qcr rfl 0 rfl rfl λa E=>bd hF λr148 e149 hF=>qae E qjy rfl (ih_memory_placeholders _ x135.Parts h146 e149 hG ok) rfl rfl ?_
   rintro _ w ⟨m150,c151,rfl,hle,ok,h152⟩
   have le_m0:=le_m0.trans hle
   have le_m16:=le_m16.trans hle
   have hparts_0:=(mL qah).up hle hparts_0
   have h36:=(mL qaE).up hle h36
   have h38:=(mL qah).up hle h38
   have at29:=At.up hle at29
   have h132:=ORow.up qah hle h132
   have h146:=(mL qah).up hle h146
   have at142:=At.up hle at142
   refine⟨_,rfl,λa E=>?_⟩
   refine bd hF λl153 e154 hF=>qcf (R:=qaS) E ok 2 qah qbG Tryz.underlying38 rfl h132 (qbD.ofL h152 ok) e154 ⟨_,qbw,rfl⟩ rfl rfl rfl rfl λc155 M156 a w E ok h157=>av E rfl λa E=>wpList_nil<|qal<|qaa<|qab<|lw E (qaH rfl rfl (InR.inc r133 (qas h36) c134)) λa E=>mv E rfl λa E=>wpList_nil ?_
   cases hF
   exact qau ⟨m150,c155,M156,le_m16,(ok.pk 3 [1,2] rfl (by decide)),E.keep [3,5,8,9,10,38,39,40],h157,(InR.inc r133 (qas h36) c134)⟩
 refine fk E ok qbm qaN rfl 0 rfl rfl λa E=>lw E (qbg rfl rfl) λa E=>pt E rfl rfl λa E=>wn<|bd hF λo42 hJ hF=>qaO (Q':=λe a w=>e=.normal∧∃ c43 M44,Ok u m16 ([(b39,oc 90 [vi x22.Kind,vs x22.Text,vs x22.Name,vs x22.Style,c35,c37])]::M44::S) w∧Env 57 a [(3,c43),(5,vp b39),(8,vparts_0),(9,(vi (parts_0.length:Int))),(10,vi v15)]∧ORow 90 6 qaS m16 c43 o42 M44) ?_ ?_
 ·have hF:=hJ
  refine cg E rfl hF (λc46 hF=>?_) λc46 hF=>?_
  ·refine wp_skip ?_
   cases hF
   exact⟨rfl,⟨c17,M18,ok,E.keep [3,5,8,9,10],h19⟩⟩
  refine qab<|mv E rfl λa E=>fk E ok qbm qaN rfl 0 rfl rfl λa E=>fk E ok qbC qax rfl 0 rfl rfl λa E=>fk E ok qcn qax rfl 0 rfl rfl λa E=>lw E (qbY (ps:=[(0,.tmp 29),(2,.tmp 31),(3,.tmp 33)]) (qs:=[(0,[vi x22.Kind]),(2,[vs x22.Name]),(3,[vs x22.Style])]) (cs:=[vi x22.Kind,(vs ([])),vs x22.Name,vs x22.Style,(Value.slice none 0 0),(Value.slice none 0 0)]) qbw qgw rfl ⟨rfl,rfl,rfl,⟨rfl,rfl,rfl,⟨rfl,rfl,rfl,trivial⟩⟩⟩ rfl) λa E=>qbF (R:=qaS) (xo:=[.tmp 34]) (xs:=([(Part.mk x22.Kind ([]) x22.Name x22.Style ([]) ([]))]:List (Part))) E ok qbG qbw rfl ⟨⟨_,rfl,rfl,(qbd.2 ⟨_,_,rfl,r31,(Nat.zero_le _),l33,l34,qbt,qbt⟩)⟩,trivial⟩ rfl rfl rfl rfl λc47 M48 a w E ok h49=>bd hF λl50 e51 hF=>qcf (R:=qaS) E ok 2 qah qbG Tryz.underlying38 rfl h19 (qbD.ofRow h49 0 rfl ok) e51 ⟨_,qbw,rfl⟩ rfl rfl rfl rfl λc52 M53 a w E ok h54=>av E rfl λa E=>wpList_nil ?_
  cases hF
  exact⟨rfl,⟨c52,M53,(ok.pk 3 [1,2] rfl (by decide)),E.keep [3,5,8,9,10],h54⟩⟩
 intro e a w hO
 obtain⟨rfl,c55,M56,ok,E,h57⟩:=hO
 refine qaa<|wp_seq<|sg<|fk E ok qdN qfx rfl 0 rfl rfl λa E=>lv E ok (qa8 qch h36 rfl) λa E=>mv E rfl λa E=>wn<|wp_block<|bd hF λo62 hL hF=>qbb _ (λ(s:(List (Part))×Int) a w=>∃ m63 c64 M65,m16.le m63∧Ok u m63 ([(b39,oc 90 [vi x22.Kind,vs x22.Text,vs x22.Name,vs x22.Style,c35,c37])]::M65::S) w∧Env 57 a [(3,c64),(5,vp b39),(8,vparts_0),(9,(vi (parts_0.length:Int))),(10,vi v15),(38,c35),(39,(vi (x22.Cases.length:Int))),(40,vi s.2)]∧ORow 90 6 qaS m63 c64 s.1 M65∧InR .i64 s.2) (λ(b:((List (Part)))) e a w=>e=(.exit 2)∧∃ m113 c114 M115,m16.le m113∧Ok u m113 ([(b39,oc 90 [vi x22.Kind,vs x22.Text,vs x22.Name,vs x22.Style,c35,c37])]::M115::S) w∧Env 57 a [(3,c114),(5,vp b39),(8,vparts_0),(9,(vi (parts_0.length:Int))),(10,vi v15)]∧ORow 90 6 qaS m113 c114 b M115) ?_ ?_ N _ a w hL ⟨m16,c55,M56,Mem.le.refl _,ok,E.keep [3,5,8,9,10,38,39,40],h57,(ir 0)⟩
 rotate_left
 ·intro e a w _ hO
  obtain⟨rfl,m99,c100,M101,hle,ok,E,h102⟩:=hO
  have le_m0:=le_m0.trans hle
  have hparts_0:=(mL qah).up hle hparts_0
  have h36:=(mL qaE).up hle h36
  have h38:=(mL qah).up hle h38
  have at29:=At.up hle at29
  refine qbh<|qaa<|qab<|mv E rfl λa E=>fk E ok qc1 qcr rfl 0 rfl rfl λa E=>bd hF λr103 e104 hF=>qae E qjy rfl (ih_memory_placeholders _ x22.Parts h38 e104 hG ok) rfl rfl ?_
  rintro _ w ⟨m105,c106,rfl,hle,ok,h107⟩
  have le_m0:=le_m0.trans hle
  have hparts_0:=(mL qah).up hle hparts_0
  have h36:=(mL qaE).up hle h36
  have h38:=(mL qah).up hle h38
  have at29:=At.up hle at29
  have h102:=ORow.up qah hle h102
  refine⟨_,rfl,λa E=>?_⟩
  refine bd hF λl108 e109 hF=>qcf (R:=qaS) E ok 1 qah qbG Tryz.underlying38 rfl h102 (qbD.ofL h107 ok) e109 ⟨_,qbw,rfl⟩ rfl rfl rfl rfl λc110 M111 a w E ok h112=>av E rfl λa E=>wpList_nil<|qal<|qaa<|qab<|lw E (qaH rfl rfl (InR.inc r20 (qas hparts_0) c21)) λa E=>mv E rfl λa E=>wpList_nil ?_
  cases hF
  exact qau ⟨m105,c110,M111,le_m0,(ok.pk 2 [1] rfl (by decide)),E.keep [3,8,9,10],h112,(InR.inc r20 (qas hparts_0) c21)⟩
 rintro⟨v68,v69⟩ a w r ⟨m70,c71,M72,hle,ok,E,h73,r74⟩ hF
 replace hF:qcm (qbE N) N x22 v68 v69=some r:=hF
 unfold qcm at hF
 have le_m16:=Mem.le.refl m16
 have le_m0:=le_m0.trans hle
 have le_m16:=le_m16.trans hle
 have hparts_0:=(mL qah).up hle hparts_0
 have h36:=(mL qaE).up hle h36
 have h38:=(mL qah).up hle h38
 have at29:=At.up hle at29
 refine sg<|lw E (qaP rfl rfl) λa E=>wn<|wp_seq<|cg E rfl hF (λc75 hF=>?_) λc75 hF=>?_
 ·refine wp_exit<|qaM ?_
  cases hF
  exact so (⟨rfl,⟨m70,c71,M72,le_m16,ok,E.keep [3,5,8,9,10],h73⟩⟩)
 refine wp_skip<|qaa<|wp_seq<|wp_block<|sg ?_
 obtain⟨x76,e77,hF⟩:=bnd hF
 obtain⟨b78,o79,es80,hl81,rr82,at83,yy84⟩:=ia E 38 40 qch h36 e77
 obtain⟨c86,rfl,l85,h87⟩:=rr82
 refine lv E ok (yy84 _ _) λa E=>lv E ok (qao (cs:=[vs x76.Key,c86]) qfE rfl rfl (Holds.ro at83)) λa E=>qaL E ok qb0 rfl rfl λb88 a w E ok=>qai E ok 0 rfl rfl rfl qgc rfl rfl ⟨rfl,(qbT h87),trivial⟩ rfl rfl λw ok=>wn<|qab<|mv E rfl λa E=>fk E ok qeL qcr rfl 0 rfl rfl λa E=>bd hF λr89 e90 hF=>qae E qjy rfl (ih_memory_placeholders _ x76.Parts h87 e90 hG ok) rfl rfl ?_
 rintro _ w ⟨m91,c92,rfl,hle,ok,h93⟩
 have le_m0:=le_m0.trans hle
 have le_m16:=le_m16.trans hle
 have hparts_0:=(mL qah).up hle hparts_0
 have h36:=(mL qaE).up hle h36
 have h38:=(mL qah).up hle h38
 have at29:=At.up hle at29
 have h73:=ORow.up qah hle h73
 have h87:=(mL qah).up hle h87
 have at83:=At.up hle at83
 refine⟨_,rfl,λa E=>?_⟩
 refine bd hF λl94 e95 hF=>qcf (R:=qaS) E ok 2 qah qbG Tryz.underlying38 rfl h73 (qbD.ofL h93 ok) e95 ⟨_,qbw,rfl⟩ rfl rfl rfl rfl λc96 M97 a w E ok h98=>av E rfl λa E=>wpList_nil<|qal<|qaa<|qab<|lw E (qaH rfl rfl (InR.inc r74 (qas h36) c75)) λa E=>mv E rfl λa E=>wpList_nil ?_
 cases hF
 exact qau ⟨m91,c96,M97,le_m16,(ok.pk 3 [1,2] rfl (by decide)),E.keep [3,5,8,9,10,38,39,40],h98,(InR.inc r74 (qas h36) c75)⟩
theorem qi8:qeG 0:=by
 intro u m0 S w vparts_0 parts_0 hparts_0 r hF hG ok
 replace hF:none=some r:=hF
 cases hF
theorem qhT(N:Nat):qeG N:=by
 induction N with
 | zero=>exact qi8
 | succ N h=>exact qiS N h
theorem qg4{u:World}{m0:Mem}{S:Segs}{w:World}(N:Nat)(vparts_0:Value)(parts_0:List (Part))(hparts_0:(pL 6 qaS) m0 [vparts_0] parts_0){r:(List (Part))}(hF:qbE N parts_0=some r)(hG:Glob u)(ok:Ok u m0 S w) :
 Calls Tryz.prog 33 [vparts_0].toArray w λe w'=>∃ m1 v0,e=.returned v0∧m0.le m1∧Ok u m1 S w'∧(pL 6 qaS) m1 [v0] r:=(qhT N) vparts_0 parts_0 hparts_0 hF hG ok
def qin(u:World)(m0:Mem)(S:Segs)(r:(List (Pair))×Bool)(a:Act)(w:World):Prop:=
 ∃ m1 v0,m0.le m1∧Ok u m1 S w∧a.defers=[]∧RVs Tryz.prog a w [.t 4 v0,.t 5 (.bool r.2)]∧(pL 2 qff) m1 [v0] r.1
theorem qmg(N:Nat)(va_0:Value)(a_0:List (Part))(ha_0:(pL 6 qaS) m0 [va_0] a_0)(vb_1:Value)(b_1:List (Part))(hb_1:(pL 6 qaS) m0 [vb_1] b_1){r:(List (Pair))×Bool}(hF:qfy N a_0 b_1=some r)(hG:Glob u)(ok:Ok u m0 S w) :
  Calls Tryz.prog 17 [va_0,vb_1].toArray w λe w'=>∃ m1 v0,e=.returned (.tuple [v0,(.bool r.2)].toArray)∧m0.le m1∧Ok u m1 S w'∧(pL 2 qff) m1 [v0] r.1:=by
 have le_m0:=Mem.le.refl m0
 unfold qfy at hF
 refine en (qin u m0 S) r Tryz.func17 rfl rfl rfl (by rintro a w ⟨m1,v0,hle,ok,hd,hrv,h0⟩;exact qbf [.t 4 v0,.t 5 (.bool r.2)] hd rfl hrv ⟨m1,v0,rfl,hle,ok,h0⟩) λfin a E=>sg<|av E rfl λa E=>aw E rfl λa E=>wp_seq<|sg<|mv E rfl λa E=>bd hF λr1 e2 hF=>lc E qoR rfl (qgF N _ a_0 ha_0 e2 hG ok) λw ok a E=>lw E (qa9 rfl) λa E=>mv E rfl λa E=>bu E 21 hF (λc3 hF E=>?_) λc3 hF E=>?_
 ·refine lsq E λa E=>ls E λa E=>pt E rfl rfl λa E=>wn<|c_if E rfl (λ_=>?_) (λh=>by cases h)
  refine sg<|av E rfl λa E=>aw E rfl λa E=>wp_ret<|qak ?_
  exact fin hF ⟨m0,(.slice none 0 0),le_m0,ok,E.d,⟨rv_t E rfl,rv_t E rfl,trivial⟩,qbt⟩
 refine mv E rfl λa E=>bd hF λr4 e5 hF=>lc E qoR rfl (qgF N _ b_1 hb_1 e5 hG ok) λw ok a E=>lw E (qa9 rfl) λa E=>pf E rfl rfl λa E=>wn<|cf E rfl hF (λc6 hF=>?_) λc6 hF=>?_
 ·refine sg<|av E rfl λa E=>aw E rfl λa E=>wp_ret<|qak ?_
  exact fin hF ⟨m0,(.slice none 0 0),le_m0,ok,E.d,⟨rv_t E rfl,rv_t E rfl,trivial⟩,qbt⟩
 refine wp_skip<|qaa<|sg<|mv E rfl λa E=>bd hF λr7 e8 hF=>qae E qjy rfl (qg4 N _ a_0 ha_0 e8 hG ok) rfl rfl ?_
 rintro _ w ⟨m9,c10,rfl,hle,ok,h11⟩
 have le_m0:=le_m0.trans hle
 have ha_0:=(mL qah).up hle ha_0
 have hb_1:=(mL qah).up hle hb_1
 refine⟨_,rfl,λa E=>?_⟩
 refine mv E rfl λa E=>bd hF λr12 e13 hF=>qae E qjy rfl (qg4 N _ b_1 hb_1 e13 hG ok) rfl rfl ?_
 rintro _ w ⟨m14,c15,rfl,hle,ok,h16⟩
 have le_m0:=le_m0.trans hle
 have ha_0:=(mL qah).up hle ha_0
 have hb_1:=(mL qah).up hle hb_1
 have h11:=(mL qah).up hle h11
 refine⟨_,rfl,λa E=>?_⟩
 refine av E rfl λa E=>aw E rfl λa E=>wp_seq<|sg<|mv E rfl λa E=>lv E ok (qa8 qbG h11 rfl) λa E=>mv E rfl λa E=>lv E ok (qa8 qbG h16 rfl) λa E=>lw E (qbg rfl rfl) λa E=>wn<|cf E rfl hF (λc17 hF=>?_) λc17 hF=>?_
 ·refine sg<|av E rfl λa E=>aw E rfl λa E=>wp_ret<|qak ?_
  exact fin hF ⟨m14,(.slice none 0 0),le_m0,ok,E.d,⟨rv_t E rfl,rv_t E rfl,trivial⟩,qbt⟩
 refine wp_skip<|qaa<|sg<|qf0 kS (oneV pS) E ok rfl rfl λc18 M19 a w E ok h20=>qf0 kS (oneV pS) E ok rfl rfl λc21 M22 a w E ok h23=>av E rfl λa E=>av E rfl λa E=>wn<|sg<|aw E rfl λa E=>wp_seq<|sg<|mv E rfl λa E=>lv E ok (qa8 qbG h11 rfl) λa E=>mv E rfl λa E=>wn<|wp_block ?_
 obtain⟨M35,ok,h36⟩:=qd9 (e:=68) (k:=2) (R:=qff) ok
 refine bd hF λo37 hL hF=>qbb _ (λ(s:(List (Pair))×Int×(List (List UInt8×List UInt8))×(List (List UInt8×List UInt8))) a w=>∃ c38 M39 c42 M43 c45 M46,Ok u m14 (M39::M46::M43::S) w∧Env 120 a [(6,c10),(7,c15),(8,c42),(9,c45),(10,c38),(38,(vi (r7.length:Int))),(39,vi s.2.1)]∧ORow 68 2 qff m14 c38 s.1 M39∧InR .i64 s.2.1∧OMap kS (oneV pS) m14 c42 s.2.2.1 M43∧OMap kS (oneV pS) m14 c45 s.2.2.2 M46) (λ(b:(((List (Pair)))⊕((List (Pair))×Bool))) e a w=>(Sum.elim (λb284=>e=(.exit 0)∧∃ c285 M286,Ok u m14 (M286::S) w∧Env 120 a [(10,c285)]∧ORow 68 2 qff m14 c285 b284 M286) (λb288=>e=.ret∧qin u m0 S b288 a w)) b) ?_ ?_ N _ a w hL ⟨(Value.slice none 0 0),M35,c18,M19,c21,M22,ok,E.keep [6,7,8,9,10,38,39],h36,(ir 0),h20,h23⟩
 rotate_left
 ·intro e a w _ hO
  rcases o37 with o37 | o37
  rotate_left
  ·obtain⟨rfl,hret⟩:=hO
   refine qaA<|qak ?_
   exact fin hF hret
  have hF:=qdI hF
  obtain⟨rfl,c279,M280,ok,E,h281⟩:=hO
  refine qbh<|qaa<|sg<|mv E rfl λa E=>av E rfl λa E=>av E rfl λa E=>wn<|wp_ret ?_
  obtain⟨m282,hle,ok,hfz⟩:=(ok.frs 0 rfl).freeze
  have h283:=ORow.froz ql9 h281 hle hfz (by decide)
  have le_m0:=le_m0.trans hle
  have ha_0:=(mL qah).up hle ha_0
  have hb_1:=(mL qah).up hle hb_1
  have h11:=(mL qah).up hle h11
  have h16:=(mL qah).up hle h16
  exact fin hF ⟨m282,c279,le_m0,ok,E.d,⟨rv_t E rfl,rv_t E rfl,trivial⟩,h283⟩
 rintro⟨v48,v49,v50,v51⟩ a w r ⟨c52,M53,c56,M57,c59,M60,ok,E,h54,r55,h58,h61⟩ hF
 replace hF:qd3 N r7 r12 v48 v49 v50 v51=some r:=hF
 unfold qd3 at hF
 refine sg<|lw E (qaP rfl rfl) λa E=>wn<|wp_seq<|cg E rfl hF (λc62 hF=>?_) λc62 hF=>?_
 ·refine wp_exit<|qaM ?_
  cases hF
  exact so (sl ⟨rfl,⟨c52,M53,(ok.pk 3 [0] rfl (by decide)),E.keep [10],h54⟩⟩)
 refine wp_skip<|qaa<|wp_seq<|wp_block<|sg<|mv E rfl λa E=>av E rfl λa E=>wn<|wp_seq<|qdO (by kernel_rfl) (by kernel_rfl) ok<|qv E (qad rfl) λa E=>qv E (qad rfl) λa E=>?_
 obtain⟨x63,e64,hF⟩:=bnd hF
 obtain⟨b65,o66,es67,hl68,rr69,at70,yy71⟩:=ia E 42 43 qbG h11 e64
 obtain⟨c76,c78,rfl,r72,l73,l74,l75,h77,h79⟩:=(qbd.1 rr69)
 refine qv E (yy71 _ _) λa E=>qv E (qaj qbC rfl) λa E=>qv E (qaw qax rfl (Holds.ro (At.sub 2 1 at70))) λa E=>qv E (qad rfl) λa E=>qv E (qad rfl) λa E=>?_
 obtain⟨x80,e81,hF⟩:=bnd hF
 obtain⟨b82,o83,es84,hl85,rr86,at87,yy88⟩:=ia E 47 48 qbG h16 e81
 obtain⟨c93,c95,rfl,r89,l90,l91,l92,h94,h96⟩:=(qbd.1 rr86)
 refine qv E (yy88 _ _) λa E=>qv E (qaj qbC rfl) λa E=>qv E (qaw qax rfl (Holds.ro (At.sub 2 1 at87))) λa E=>qv E (qa3 rfl) λa E=>qv E (qa3 rfl) λa E=>wpQuiet_nil ?_
 intro w ok
 refine qaa<|sg<|mz E rfl rfl λa E=>?_
 obtain⟨xv97,h98,yy99,yy100⟩:=qfC (P:=Tryz.prog) (mo:=.tmp 53) (ko:=.tmp 54) (zx:=([]:List UInt8)) ok 2 (qbe Tryz.underlying9) Tryz.underlying66 h58 rfl (qaD E rfl) (qaD E rfl) ⟨rfl,l74⟩ qod (qb8 (Nat.zero_le _))
 obtain⟨rfl,l101⟩:=qkg h98
 refine lv E ok (yy100 _) λa E=>mv E rfl λa E=>lw E (qag rfl rfl) λa E=>lw E (qag rfl rfl) λa E=>av E rfl λa E=>aw E rfl λa E=>sg<|mz E rfl rfl λa E=>?_
 obtain⟨xv102,h103,yy104,yy105⟩:=qfC (P:=Tryz.prog) (mo:=.tmp 59) (ko:=.tmp 60) (zx:=([]:List UInt8)) ok 1 (qbe Tryz.underlying9) Tryz.underlying66 h61 rfl (qaD E rfl) (qaD E rfl) ⟨rfl,l91⟩ qod (qb8 (Nat.zero_le _))
 obtain⟨rfl,l106⟩:=qkg h103
 refine lv E ok (yy105 _) λa E=>mv E rfl λa E=>lw E (qag rfl rfl) λa E=>lw E (qag rfl rfl) λa E=>av E rfl λa E=>aw E rfl λa E=>wp_seq<|wp_seq<|qdO (by kernel_rfl) (by kernel_rfl) ok<|qv E (qad rfl) λa E=>qv E (qad rfl) λa E=>?_
 obtain⟨x107,e108,hF⟩:=bnd hF
 obtain⟨b109,o110,es111,hl112,rr113,at114,yy115⟩:=ia E 64 65 qbG h11 e108
 obtain⟨c120,c122,rfl,r116,l117,l118,l119,h121,h123⟩:=(qbd.1 rr113)
 refine qv E (yy115 _ _) λa E=>qv E (qaj qbm rfl) λa E=>qv E (qaw qaN rfl (Holds.ro (At.sub 0 1 at114))) λa E=>qv E (qad rfl) λa E=>qv E (qad rfl) λa E=>?_
 obtain⟨x124,e125,hF⟩:=bnd hF
 obtain⟨b126,o127,es128,hl129,rr130,at131,yy132⟩:=ia E 69 70 qbG h16 e125
 obtain⟨c137,c139,rfl,r133,l134,l135,l136,h138,h140⟩:=(qbd.1 rr130)
 refine qv E (yy132 _ _) λa E=>qv E (qaj qbm rfl) λa E=>qv E (qaw qaN rfl (Holds.ro (At.sub 0 1 at131))) λa E=>qv E (qbg rfl rfl) λa E=>qv E (qad rfl) λa E=>bu E 75 hF (λc141 hF E=>?_) λc141 hF E=>?_
 ·refine qs E λa E=>qs E λa E=>qs E λa E=>qs E λa E=>qs E λa E=>qs E λa E=>qs E λa E=>qs E λa E=>qs E λa E=>qs E λa E=>qs E λa E=>qv E (qb1 rfl rfl) λa E=>qv E (qad rfl) λa E=>qs E λa E=>qs E λa E=>qs E λa E=>?_
  refine qs E λa E=>qs E λa E=>qs E λa E=>qv E (qb1 rfl rfl) λa E=>qv E (qad rfl) λa E=>qs E λa E=>qs E λa E=>qs E λa E=>qs E λa E=>qs E λa E=>qs E λa E=>qv E (qb1 rfl rfl) λa E=>wpQuiet_nil ?_
  intro w ok
  refine qaa<|c_if E rfl (λ_=>?_) (λh=>by cases h)
  refine sg<|av E rfl λa E=>aw E rfl λa E=>wp_ret<|qak<|qaA<|qak ?_
  cases hF
  exact so (sr ⟨rfl,⟨m14,(.slice none 0 0),le_m0,ok.drop.drop.drop,E.d,⟨rv_t E rfl,rv_t E rfl,trivial⟩,qbt⟩⟩)
 refine qv E (qad rfl) λa E=>qv E (qad rfl) λa E=>?_
 obtain⟨x142,e143,hF⟩:=bnd hF
 obtain⟨b144,o145,es146,hl147,rr148,at149,yy150⟩:=ia E 76 77 qbG h11 e143
 obtain⟨c155,c157,rfl,r151,l152,l153,l154,h156,h158⟩:=(qbd.1 rr148)
 refine qv E (yy150 _ _) λa E=>qv E (qaj qcn rfl) λa E=>qv E (qaw qax rfl (Holds.ro (At.sub 3 1 at149))) λa E=>qv E (qad rfl) λa E=>qv E (qad rfl) λa E=>?_
 obtain⟨x159,e160,hF⟩:=bnd hF
 obtain⟨b161,o162,es163,hl164,rr165,at166,yy167⟩:=ia E 81 82 qbG h16 e160
 obtain⟨c172,c174,rfl,r168,l169,l170,l171,h173,h175⟩:=(qbd.1 rr165)
 refine qv E (yy167 _ _) λa E=>qv E (qaj qcn rfl) λa E=>qv E (qaw qax rfl (Holds.ro (At.sub 3 1 at166))) λa E=>qv E (qeU rfl rfl) λa E=>qv E (qbX rfl rfl) λa E=>qv E (qad rfl) λa E=>bu E 88 hF (λc176 hF E=>?_) λc176 hF E=>?_
 ·refine qs E λa E=>qs E λa E=>qs E λa E=>qs E λa E=>qs E λa E=>qs E λa E=>qv E (qb1 rfl rfl) λa E=>qv E (qad rfl) λa E=>qs E λa E=>qs E λa E=>qs E λa E=>qs E λa E=>qs E λa E=>qs E λa E=>qv E (qb1 rfl rfl) λa E=>wpQuiet_nil ?_
  intro w ok
  refine qaa<|c_if E rfl (λ_=>?_) (λh=>by cases h)
  refine sg<|av E rfl λa E=>aw E rfl λa E=>wp_ret<|qak<|qaA<|qak ?_
  cases hF
  exact so (sr ⟨rfl,⟨m14,(.slice none 0 0),le_m0,ok.drop.drop.drop,E.d,⟨rv_t E rfl,rv_t E rfl,trivial⟩,qbt⟩⟩)
 refine qv E (qad rfl) λa E=>qv E (qad rfl) λa E=>bw E 90 hF (λc177 hF E=>?_) λc177 hF E=>?_
 ·as_aux_lemma=>
   refine qs E λa E=>qs E λa E=>qs E λa E=>qv E (qbX rfl rfl) λa E=>qv E (qbX rfl rfl) λa E=>qv E (qad rfl) λa E=>qv E (qad rfl) λa E=>qv E (qad rfl) λa E=>bw E 98 hF (λc229 hF E=>?_) λc229 hF E=>?_
   ·refine qs E λa E=>qs E λa E=>qs E λa E=>qv E (qbX rfl rfl) λa E=>qv E (qbX rfl rfl) λa E=>wpQuiet_nil ?_
    intro w ok
    refine qaa<|c_if E rfl (λh=>by cases h) (λ_=>?_)
    refine wp_skip<|qaa<|wp_seq<|sg<|mv E rfl λa E=>lw E (qa9 rfl) λa E=>wn<|bd hF λo255 hJ hF=>qaO (Q':=λe a w=>e=.normal∧∃ c256 M257,Ok u m14 (M257::M60::M57::S) w∧Env 120 a [(6,c10),(7,c15),(8,c56),(9,c59),(10,c256),(12,vs x63.Name),(13,vs x80.Name),(38,(vi (r7.length:Int))),(39,vi v49)]∧ORow 68 2 qff m14 c256 o255 M257) ?_ ?_
    ·have hF:=hJ
     refine cg E rfl hF (λc259 hF=>?_) λc259 hF=>?_
     ·refine wp_skip ?_
      cases hF
      exact⟨rfl,⟨c52,M53,ok,E.keep [6,7,8,9,10,12,13,38,39],h54⟩⟩
     refine qab<|mz E rfl rfl λa E=>mv E rfl λa E=>lw E (qbY (ps:=[(0,.tmp 107),(1,.tmp 108)]) (qs:=[(0,[vs x63.Name]),(1,[vs x80.Name])]) (cs:=[vs x63.Name,vs x80.Name]) qe1 qjv rfl ⟨rfl,rfl,rfl,⟨rfl,rfl,rfl,trivial⟩⟩ rfl) λa E=>qbF (R:=qff) (xo:=[.tmp 109]) (xs:=([(Pair.mk x63.Name x80.Name)]:List (Pair))) E ok qhN qe1 rfl ⟨⟨_,rfl,rfl,⟨rfl,l74,l91⟩⟩,trivial⟩ rfl rfl rfl rfl λc260 M261 a w E ok h262=>bd hF λl263 e264 hF=>qcf (R:=qff) E ok 1 ql9 qhN Tryz.underlying63 rfl h54 (qbD.ofRow h262 0 rfl ok) e264 ⟨_,qe1,rfl⟩ rfl rfl rfl rfl λc265 M266 a w E ok h267=>av E rfl λa E=>wpList_nil ?_
     cases hF
     exact⟨rfl,⟨c265,M266,(ok.pk 4 [1,2,3] rfl (by decide)),E.keep [6,7,8,9,10,12,13,38,39],h267⟩⟩
    intro e a w hO
    obtain⟨rfl,c268,M269,ok,E,h270⟩:=hO
    refine qaa<|qab<|mz E rfl rfl λa E=>mz E rfl rfl λa E=>mz E rfl rfl λa E=>bd hF λl271 e272 hF=>qd8 (.inl rfl) E ok 2 (qbe Tryz.underlying9) Tryz.underlying66 h58 rfl rfl rfl rfl ⟨rfl,l74⟩ (qb8 l91) e272 rfl λM273 w ok h274=>bd hF λl275 e276 hF=>qd8 (.inl rfl) E ok 1 (qbe Tryz.underlying9) Tryz.underlying66 h61 rfl rfl rfl rfl ⟨rfl,l91⟩ (qb8 l74) e276 rfl λM277 w ok h278=>wpList_nil<|qal<|qaa<|qab<|lw E (qaH rfl rfl (InR.inc r55 (qas h11) c62)) λa E=>mv E rfl λa E=>wpList_nil ?_
    cases hF
    exact qau ⟨c268,M269,c56,M273,c59,M277,ok,E.keep [6,7,8,9,10,38,39],h270,(InR.inc r55 (qas h11) c62),h274,h278⟩
   refine qv E (qad rfl) λa E=>qv E (qad rfl) λa E=>qv E (qeU rfl rfl) λa E=>qv E (qb1 rfl rfl) λa E=>qv E (qbX rfl rfl) λa E=>wpQuiet_nil ?_
   intro w ok
   refine qaa<|cf E rfl hF (λc230 hF=>?_) λc230 hF=>?_
   ·refine sg<|av E rfl λa E=>aw E rfl λa E=>wp_ret<|qak<|qaA<|qak ?_
    cases hF
    exact so (sr ⟨rfl,⟨m14,(.slice none 0 0),le_m0,ok.drop.drop.drop,E.d,⟨rv_t E rfl,rv_t E rfl,trivial⟩,qbt⟩⟩)
   refine wp_skip<|qaa<|wp_seq<|sg<|mv E rfl λa E=>lw E (qa9 rfl) λa E=>wn<|bd hF λo231 hJ hF=>qaO (Q':=λe a w=>e=.normal∧∃ c232 M233,Ok u m14 (M233::M60::M57::S) w∧Env 120 a [(6,c10),(7,c15),(8,c56),(9,c59),(10,c232),(12,vs x63.Name),(13,vs x80.Name),(38,(vi (r7.length:Int))),(39,vi v49)]∧ORow 68 2 qff m14 c232 o231 M233) ?_ ?_
   ·have hF:=hJ
    refine cg E rfl hF (λc235 hF=>?_) λc235 hF=>?_
    ·refine wp_skip ?_
     cases hF
     exact⟨rfl,⟨c52,M53,ok,E.keep [6,7,8,9,10,12,13,38,39],h54⟩⟩
    refine qab<|mz E rfl rfl λa E=>mv E rfl λa E=>lw E (qbY (ps:=[(0,.tmp 107),(1,.tmp 108)]) (qs:=[(0,[vs x63.Name]),(1,[vs x80.Name])]) (cs:=[vs x63.Name,vs x80.Name]) qe1 qjv rfl ⟨rfl,rfl,rfl,⟨rfl,rfl,rfl,trivial⟩⟩ rfl) λa E=>qbF (R:=qff) (xo:=[.tmp 109]) (xs:=([(Pair.mk x63.Name x80.Name)]:List (Pair))) E ok qhN qe1 rfl ⟨⟨_,rfl,rfl,⟨rfl,l74,l91⟩⟩,trivial⟩ rfl rfl rfl rfl λc236 M237 a w E ok h238=>bd hF λl239 e240 hF=>qcf (R:=qff) E ok 1 ql9 qhN Tryz.underlying63 rfl h54 (qbD.ofRow h238 0 rfl ok) e240 ⟨_,qe1,rfl⟩ rfl rfl rfl rfl λc241 M242 a w E ok h243=>av E rfl λa E=>wpList_nil ?_
    cases hF
    exact⟨rfl,⟨c241,M242,(ok.pk 4 [1,2,3] rfl (by decide)),E.keep [6,7,8,9,10,12,13,38,39],h243⟩⟩
   intro e a w hO
   obtain⟨rfl,c244,M245,ok,E,h246⟩:=hO
   refine qaa<|qab<|mz E rfl rfl λa E=>mz E rfl rfl λa E=>mz E rfl rfl λa E=>bd hF λl247 e248 hF=>qd8 (.inl rfl) E ok 2 (qbe Tryz.underlying9) Tryz.underlying66 h58 rfl rfl rfl rfl ⟨rfl,l74⟩ (qb8 l91) e248 rfl λM249 w ok h250=>bd hF λl251 e252 hF=>qd8 (.inl rfl) E ok 1 (qbe Tryz.underlying9) Tryz.underlying66 h61 rfl rfl rfl rfl ⟨rfl,l91⟩ (qb8 l74) e252 rfl λM253 w ok h254=>wpList_nil<|qal<|qaa<|qab<|lw E (qaH rfl rfl (InR.inc r55 (qas h11) c62)) λa E=>mv E rfl λa E=>wpList_nil ?_
   cases hF
   exact qau ⟨c244,M245,c56,M249,c59,M253,ok,E.keep [6,7,8,9,10,38,39],h246,(InR.inc r55 (qas h11) c62),h250,h254⟩
 refine qv E (qad rfl) λa E=>qv E (qad rfl) λa E=>qv E (qeU rfl rfl) λa E=>qv E (qb1 rfl rfl) λa E=>qv E (qbX rfl rfl) λa E=>qv E (qad rfl) λa E=>bu E 96 hF (λc178 hF E=>?_) λc178 hF E=>?_
 ·refine qs E λa E=>qs E λa E=>qs E λa E=>qs E λa E=>qs E λa E=>qs E λa E=>qv E (qb1 rfl rfl) λa E=>wpQuiet_nil ?_
  intro w ok
  refine qaa<|c_if E rfl (λ_=>?_) (λh=>by cases h)
  refine sg<|av E rfl λa E=>aw E rfl λa E=>wp_ret<|qak<|qaA<|qak ?_
  cases hF
  exact so (sr ⟨rfl,⟨m14,(.slice none 0 0),le_m0,ok.drop.drop.drop,E.d,⟨rv_t E rfl,rv_t E rfl,trivial⟩,qbt⟩⟩)
 refine qv E (qad rfl) λa E=>qv E (qad rfl) λa E=>bw E 98 hF (λc179 hF E=>?_) λc179 hF E=>?_
 ·refine qs E λa E=>qs E λa E=>qs E λa E=>qv E (qbX rfl rfl) λa E=>qv E (qbX rfl rfl) λa E=>wpQuiet_nil ?_
  intro w ok
  refine qaa<|c_if E rfl (λh=>by cases h) (λ_=>?_)
  refine wp_skip<|qaa<|wp_seq<|sg<|mv E rfl λa E=>lw E (qa9 rfl) λa E=>wn<|bd hF λo205 hJ hF=>qaO (Q':=λe a w=>e=.normal∧∃ c206 M207,Ok u m14 (M207::M60::M57::S) w∧Env 120 a [(6,c10),(7,c15),(8,c56),(9,c59),(10,c206),(12,vs x63.Name),(13,vs x80.Name),(38,(vi (r7.length:Int))),(39,vi v49)]∧ORow 68 2 qff m14 c206 o205 M207) ?_ ?_
  ·have hF:=hJ
   refine cg E rfl hF (λc209 hF=>?_) λc209 hF=>?_
   ·refine wp_skip ?_
    cases hF
    exact⟨rfl,⟨c52,M53,ok,E.keep [6,7,8,9,10,12,13,38,39],h54⟩⟩
   refine qab<|mz E rfl rfl λa E=>mv E rfl λa E=>lw E (qbY (ps:=[(0,.tmp 107),(1,.tmp 108)]) (qs:=[(0,[vs x63.Name]),(1,[vs x80.Name])]) (cs:=[vs x63.Name,vs x80.Name]) qe1 qjv rfl ⟨rfl,rfl,rfl,⟨rfl,rfl,rfl,trivial⟩⟩ rfl) λa E=>qbF (R:=qff) (xo:=[.tmp 109]) (xs:=([(Pair.mk x63.Name x80.Name)]:List (Pair))) E ok qhN qe1 rfl ⟨⟨_,rfl,rfl,⟨rfl,l74,l91⟩⟩,trivial⟩ rfl rfl rfl rfl λc210 M211 a w E ok h212=>bd hF λl213 e214 hF=>qcf (R:=qff) E ok 1 ql9 qhN Tryz.underlying63 rfl h54 (qbD.ofRow h212 0 rfl ok) e214 ⟨_,qe1,rfl⟩ rfl rfl rfl rfl λc215 M216 a w E ok h217=>av E rfl λa E=>wpList_nil ?_
   cases hF
   exact⟨rfl,⟨c215,M216,(ok.pk 4 [1,2,3] rfl (by decide)),E.keep [6,7,8,9,10,12,13,38,39],h217⟩⟩
  intro e a w hO
  obtain⟨rfl,c218,M219,ok,E,h220⟩:=hO
  refine qaa<|qab<|mz E rfl rfl λa E=>mz E rfl rfl λa E=>mz E rfl rfl λa E=>bd hF λl221 e222 hF=>qd8 (.inl rfl) E ok 2 (qbe Tryz.underlying9) Tryz.underlying66 h58 rfl rfl rfl rfl ⟨rfl,l74⟩ (qb8 l91) e222 rfl λM223 w ok h224=>bd hF λl225 e226 hF=>qd8 (.inl rfl) E ok 1 (qbe Tryz.underlying9) Tryz.underlying66 h61 rfl rfl rfl rfl ⟨rfl,l91⟩ (qb8 l74) e226 rfl λM227 w ok h228=>wpList_nil<|qal<|qaa<|qab<|lw E (qaH rfl rfl (InR.inc r55 (qas h11) c62)) λa E=>mv E rfl λa E=>wpList_nil ?_
  cases hF
  exact qau ⟨c218,M219,c56,M223,c59,M227,ok,E.keep [6,7,8,9,10,38,39],h220,(InR.inc r55 (qas h11) c62),h224,h228⟩
 refine qv E (qad rfl) λa E=>qv E (qad rfl) λa E=>qv E (qeU rfl rfl) λa E=>qv E (qb1 rfl rfl) λa E=>qv E (qbX rfl rfl) λa E=>wpQuiet_nil ?_
 intro w ok
 refine qaa<|cf E rfl hF (λc180 hF=>?_) λc180 hF=>?_
 ·refine sg<|av E rfl λa E=>aw E rfl λa E=>wp_ret<|qak<|qaA<|qak ?_
  cases hF
  exact so (sr ⟨rfl,⟨m14,(.slice none 0 0),le_m0,ok.drop.drop.drop,E.d,⟨rv_t E rfl,rv_t E rfl,trivial⟩,qbt⟩⟩)
 refine wp_skip<|qaa<|wp_seq<|sg<|mv E rfl λa E=>lw E (qa9 rfl) λa E=>wn<|bd hF λo181 hJ hF=>qaO (Q':=λe a w=>e=.normal∧∃ c182 M183,Ok u m14 (M183::M60::M57::S) w∧Env 120 a [(6,c10),(7,c15),(8,c56),(9,c59),(10,c182),(12,vs x63.Name),(13,vs x80.Name),(38,(vi (r7.length:Int))),(39,vi v49)]∧ORow 68 2 qff m14 c182 o181 M183) ?_ ?_
 ·have hF:=hJ
  refine cg E rfl hF (λc185 hF=>?_) λc185 hF=>?_
  ·refine wp_skip ?_
   cases hF
   exact⟨rfl,⟨c52,M53,ok,E.keep [6,7,8,9,10,12,13,38,39],h54⟩⟩
  refine qab<|mz E rfl rfl λa E=>mv E rfl λa E=>lw E (qbY (ps:=[(0,.tmp 107),(1,.tmp 108)]) (qs:=[(0,[vs x63.Name]),(1,[vs x80.Name])]) (cs:=[vs x63.Name,vs x80.Name]) qe1 qjv rfl ⟨rfl,rfl,rfl,⟨rfl,rfl,rfl,trivial⟩⟩ rfl) λa E=>qbF (R:=qff) (xo:=[.tmp 109]) (xs:=([(Pair.mk x63.Name x80.Name)]:List (Pair))) E ok qhN qe1 rfl ⟨⟨_,rfl,rfl,⟨rfl,l74,l91⟩⟩,trivial⟩ rfl rfl rfl rfl λc186 M187 a w E ok h188=>bd hF λl189 e190 hF=>qcf (R:=qff) E ok 1 ql9 qhN Tryz.underlying63 rfl h54 (qbD.ofRow h188 0 rfl ok) e190 ⟨_,qe1,rfl⟩ rfl rfl rfl rfl λc191 M192 a w E ok h193=>av E rfl λa E=>wpList_nil ?_
  cases hF
  exact⟨rfl,⟨c191,M192,(ok.pk 4 [1,2,3] rfl (by decide)),E.keep [6,7,8,9,10,12,13,38,39],h193⟩⟩
 intro e a w hO
 obtain⟨rfl,c194,M195,ok,E,h196⟩:=hO
 refine qaa<|qab<|mz E rfl rfl λa E=>mz E rfl rfl λa E=>mz E rfl rfl λa E=>bd hF λl197 e198 hF=>qd8 (.inl rfl) E ok 2 (qbe Tryz.underlying9) Tryz.underlying66 h58 rfl rfl rfl rfl ⟨rfl,l74⟩ (qb8 l91) e198 rfl λM199 w ok h200=>bd hF λl201 e202 hF=>qd8 (.inl rfl) E ok 1 (qbe Tryz.underlying9) Tryz.underlying66 h61 rfl rfl rfl rfl ⟨rfl,l91⟩ (qb8 l74) e202 rfl λM203 w ok h204=>wpList_nil<|qal<|qaa<|qab<|lw E (qaH rfl rfl (InR.inc r55 (qas h11) c62)) λa E=>mv E rfl λa E=>wpList_nil ?_
 cases hF
 exact qau ⟨c194,M195,c56,M199,c59,M203,ok,E.keep [6,7,8,9,10,38,39],h196,(InR.inc r55 (qas h11) c62),h200,h204⟩
def qd2(u:World)(m0:Mem)(S:Segs)(x0:List (List UInt8×List UInt8))(vm0:Value)(Mm0:List (Nat×Obj))(r:(List (Part))×Bool)(a:Act)(w:World):Prop:=
 ∃ m1 v0,m0.le m1∧Ok u m1 ([]::Mm0::S) w∧a.defers=[]∧RVs Tryz.prog a w [.t 4 v0,.t 5 (.bool r.2)]∧(pL 6 qaS) m1 [v0] r.1
def qf1(N:Nat):Prop:=∀ {u:World} {m0:Mem} {S:Segs} {w:World} (vparts_0:Value) (parts_0:List (Part)) (hparts_0:(pL 6 qaS) m0 [vparts_0] parts_0) {vm0:Value} {Mm0:List (Nat×Obj)} (x0:List (List UInt8×List UInt8)) (hm0:OMap kS (oneV pS) m0 vm0 x0 Mm0) {r:(List (Part))×Bool} (hF:qco N parts_0 x0=some r) (hG:Glob u) (ok:Ok u m0 ([]::Mm0::S) w),Calls Tryz.prog 18 [vparts_0,vm0].toArray w λe w'=>∃ m1 v0,e=.returned (.tuple [v0,(.bool r.2)].toArray)∧m0.le m1∧Ok u m1 ([]::Mm0::S) w'∧(pL 6 qaS) m1 [v0] r.1
theorem qll(N:Nat)(ih_memory_renamed:qf1 N):qf1 (N+1):=by
 intro u m0 S w vparts_0 parts_0 hparts_0 vm0 Mm0 x0 hm0 r hF hG ok
 have le_m0:=Mem.le.refl m0
 have hF0:qek (qco N) N parts_0 x0=some r:=hF
 have hF:=hF0
 clear hF0
 unfold qek at hF
 refine en (qd2 u m0 S x0 vm0 Mm0) r Tryz.func18 rfl rfl rfl (by rintro a w ⟨m1,v0,hle,ok,hd,hrv,h0⟩;exact qbf [.t 4 v0,.t 5 (.bool r.2)] hd rfl hrv ⟨m1,v0,rfl,hle,ok,h0⟩) λfin a E=>sg<|av E rfl λa E=>aw E rfl λa E=>sg<|aw E rfl λa E=>wp_seq<|sg<|mv E rfl λa E=>lv E ok (qa8 qbG hparts_0 rfl) λa E=>mv E rfl λa E=>wn<|wp_block ?_
 obtain⟨M6,ok,h7⟩:=qd9 (e:=90) (k:=6) (R:=qaS) ok
 refine bd hF λo8 hL hF=>qbb _ (λ(s:(List (Part))×Int) a w=>∃ m9 c10 M11,m0.le m9∧Ok u m9 (M11::[]::Mm0::S) w∧Env 91 a [(1,vm0),(6,c10),(18,vparts_0),(19,(vi (parts_0.length:Int))),(20,vi s.2)]∧ORow 90 6 qaS m9 c10 s.1 M11∧InR .i64 s.2) (λ(b:(((List (Part)))⊕((List (Part))×Bool))) e a w=>(Sum.elim (λb296=>e=(.exit 0)∧∃ m297 c298 M299,m0.le m297∧Ok u m297 (M299::[]::Mm0::S) w∧Env 91 a [(6,c298)]∧ORow 90 6 qaS m297 c298 b296 M299) (λb301=>e=.ret∧qd2 u m0 S x0 vm0 Mm0 b301 a w)) b) ?_ ?_ N _ a w hL ⟨m0,(Value.slice none 0 0),M6,Mem.le.refl _,ok,E.keep [1,6,18,19,20],h7,(ir 0)⟩
 rotate_left
 ·intro e a w _ hO
  rcases o8 with o8 | o8
  rotate_left
  ·obtain⟨rfl,hret⟩:=hO
   refine qaA<|qak ?_
   exact fin hF hret
  have hF:=qdI hF
  obtain⟨rfl,m290,c291,M292,hle,ok,E,h293⟩:=hO
  have le_m0:=le_m0.trans hle
  have hparts_0:=(mL qah).up hle hparts_0
  have hm0:=OMap.up (qbc mS) hle hm0
  refine qbh<|qaa<|sg<|mv E rfl λa E=>av E rfl λa E=>av E rfl λa E=>wn<|wp_ret ?_
  obtain⟨m294,hle,ok,hfz⟩:=(ok.frs 0 rfl).freeze
  have h295:=ORow.froz qah h293 hle hfz (by decide)
  have le_m0:=le_m0.trans hle
  have hparts_0:=(mL qah).up hle hparts_0
  have hm0:=OMap.up (qbc mS) hle hm0
  exact fin hF ⟨m294,c291,le_m0,ok,E.d,⟨rv_t E rfl,rv_t E rfl,trivial⟩,h295⟩
 rintro⟨v14,v15⟩ a w r ⟨m16,c17,M18,hle,ok,E,h19,r20⟩ hF
 replace hF:qeh (qco N) N parts_0 x0 v14 v15=some r:=hF
 unfold qeh at hF
 have le_m0:=le_m0.trans hle
 have hparts_0:=(mL qah).up hle hparts_0
 have hm0:=OMap.up (qbc mS) hle hm0
 refine sg<|lw E (qaP rfl rfl) λa E=>wn<|wp_seq<|cg E rfl hF (λc21 hF=>?_) λc21 hF=>?_
 ·refine wp_exit<|qaM ?_
  cases hF
  exact so (sl ⟨rfl,⟨m16,c17,M18,le_m0,ok,E.keep [6],h19⟩⟩)
 refine wp_skip<|qaa<|wp_seq<|wp_block<|sg ?_
 obtain⟨x22,e23,hF⟩:=bnd hF
 obtain⟨b24,o25,es26,hl27,rr28,at29,yy30⟩:=ia E 18 20 qbG hparts_0 e23
 obtain⟨c35,c37,rfl,r31,l32,l33,l34,h36,h38⟩:=(qbd.1 rr28)
 refine lv E ok (yy30 _ _) λa E=>lv E ok (qao (cs:=[vi x22.Kind,vs x22.Text,vs x22.Name,vs x22.Style,c35,c37]) qct rfl rfl (Holds.ro at29)) λa E=>qaL E ok qbw rfl rfl λb39 a w E ok=>qai E ok 0 rfl rfl rfl qel rfl rfl ⟨rfl,rfl,rfl,rfl,(qbT h36),(qbT h38),trivial⟩ rfl rfl λw ok=>wn<|wp_seq<|sg<|fk E ok qbm qaN rfl 0 rfl rfl λa E=>lw E (qbg rfl rfl) λa E=>mv E rfl λa E=>bw E 27 hF (λc40 hF E=>?_) λc40 hF E=>?_
 ·as_aux_lemma=>
   refine lsq E λa E=>ls E λa E=>pf E rfl rfl λa E=>mv E rfl λa E=>lsq E λa E=>ls E λa E=>pf E rfl rfl λa E=>wn<|c_if E rfl (λh=>by cases h) (λ_=>?_)
   refine wp_skip<|qaa<|sg<|aw E rfl λa E=>wp_seq<|sg<|fk E ok qdN qfx rfl 0 rfl rfl λa E=>lv E ok (qa8 qch h36 rfl) λa E=>mv E rfl λa E=>wn<|wp_block ?_
   obtain⟨M221,ok,h222⟩:=qd9 (e:=93) (k:=2) (R:=qcY) ok
   refine bd hF λo223 hL hF=>qbb _ (λ(s:(List (Case))×Int) a w=>∃ m224 c225 M226,m16.le m224∧Ok u m224 (M226::[(b39,oc 90 [vi x22.Kind,vs x22.Text,vs x22.Name,vs x22.Style,c35,c37])]::M18::[]::Mm0::S) w∧Env 91 a [(1,vm0),(6,c17),(8,vp b39),(11,c225),(18,vparts_0),(19,(vi (parts_0.length:Int))),(20,vi v15),(49,c35),(50,(vi (x22.Cases.length:Int))),(51,vi s.2)]∧ORow 93 2 qcY m224 c225 s.1 M226∧InR .i64 s.2) (λ(b:(((List (Case)))⊕((List (Part))×Bool))) e a w=>(Sum.elim (λb284=>e=(.exit 2)∧∃ m285 c286 M287,m16.le m285∧Ok u m285 (M287::[(b39,oc 90 [vi x22.Kind,vs x22.Text,vs x22.Name,vs x22.Style,c35,c37])]::M18::[]::Mm0::S) w∧Env 91 a [(1,vm0),(6,c17),(8,vp b39),(11,c286),(18,vparts_0),(19,(vi (parts_0.length:Int))),(20,vi v15)]∧ORow 93 2 qcY m285 c286 b284 M287) (λb289=>e=.ret∧qd2 u m0 S x0 vm0 Mm0 b289 a w)) b) ?_ ?_ N _ a w hL ⟨m16,(Value.slice none 0 0),M221,Mem.le.refl _,ok,E.keep [1,6,8,11,18,19,20,49,50,51],h222,(ir 0)⟩
   rotate_left
   ·as_aux_lemma=>
     intro e a w _ hO
     rcases o223 with o223 | o223
     rotate_left
     ·have hF:=qnw hF
      obtain⟨rfl,hret⟩:=hO
      refine qaA<|qak<|qaA<|qak ?_
      cases hF
      exact so (sr ⟨rfl,hret⟩)
     have hF:=qdI hF
     obtain⟨rfl,m264,c265,M266,hle,ok,E,h267⟩:=hO
     have le_m0:=le_m0.trans hle
     have hparts_0:=(mL qah).up hle hparts_0
     have hm0:=OMap.up (qbc mS) hle hm0
     have h19:=ORow.up qah hle h19
     have h36:=(mL qaE).up hle h36
     have h38:=(mL qah).up hle h38
     have at29:=At.up hle at29
     refine qbh<|qaa<|sg<|fk E ok qc1 qcr rfl 1 rfl rfl λa E=>mv E rfl λa E=>?_
     obtain⟨r268,e269,hF⟩:=bnd hF
     replace ok:Ok u m264 ([]::Mm0::M266::[(b39,oc 90 [vi x22.Kind,vs x22.Text,vs x22.Name,vs x22.Style,c35,c37])]::M18::S) w:=(ok.pk 5 [3,4,0,1,2] rfl (by decide))
     refine qae E qk1 rfl (ih_memory_renamed _ x22.Parts h38 x0 hm0 e269 hG ok) rfl rfl ?_
     rintro _ w ⟨m270,c271,rfl,hle,ok,h272⟩
     have le_m0:=le_m0.trans hle
     have hparts_0:=(mL qah).up hle hparts_0
     have hm0:=OMap.up (qbc mS) hle hm0
     have h19:=ORow.up qah hle h19
     have h36:=(mL qaE).up hle h36
     have h38:=(mL qah).up hle h38
     have at29:=At.up hle at29
     have h267:=ORow.up qaE hle h267
     refine⟨_,rfl,λa E=>?_⟩
     refine mv E rfl λa E=>lw E (qag rfl rfl) λa E=>lw E (qag rfl rfl) λa E=>av E rfl λa E=>aw E rfl λa E=>wp_seq<|sg<|mv E rfl λa E=>lw E (qa9 rfl) λa E=>wn<|cf E rfl hF (λc273 hF=>?_) λc273 hF=>?_
     ·refine sg<|av E rfl λa E=>aw E rfl λa E=>wp_ret<|qak<|qaA<|qak ?_
      cases hF
      exact so (sr ⟨rfl,⟨m270,(.slice none 0 0),le_m0,(ok.pk 5 [0,1] rfl (by decide)),E.d,⟨rv_t E rfl,rv_t E rfl,trivial⟩,qbt⟩⟩)
     refine wp_skip<|qaa<|sg<|mz E rfl rfl λa E=>fv E qdN rfl λa E=>qai E ok 3 rfl rfl rfl qm9 (ORow.cells h267) rfl ⟨(ORow.one h267),trivial⟩ rfl rfl λw ok=>fv E qc1 rfl λa E=>qai E ok 3 rfl rfl rfl qgz (qdy h272) rfl ⟨(qbT h272),trivial⟩ rfl rfl λw ok=>wn<|qab<|mv E rfl λa E=>lv E ok (qao (cs:=[vi x22.Kind,vs x22.Text,vs x22.Name,vs x22.Style,c265,c271]) qct rfl rfl (Holds.own 3 rfl rfl)) λa E=>?_
     obtain⟨m274,hle,ok,hfz⟩:=(ok.frs 2 rfl).freeze
     have h275:=ORow.froz qaE h267 hle hfz (by decide)
     have le_m0:=le_m0.trans hle
     have hparts_0:=(mL qah).up hle hparts_0
     have hm0:=OMap.up (qbc mS) hle hm0
     have h19:=ORow.up qah hle h19
     have h36:=(mL qaE).up hle h36
     have h38:=(mL qah).up hle h38
     have at29:=At.up hle at29
     have h272:=(mL qah).up hle h272
     refine qbF (R:=qaS) (xo:=[.tmp 86]) (xs:=([(Part.mk x22.Kind x22.Text x22.Name x22.Style o223 r268.1)]:List (Part))) E ok qbG qbw rfl ⟨⟨_,rfl,rfl,(qbd.2 ⟨_,_,rfl,r31,l32,l33,l34,h275,h272⟩)⟩,trivial⟩ rfl rfl rfl rfl λc276 M277 a w E ok h278=>bd hF λl279 e280 hF=>qcf (R:=qaS) E ok 4 qah qbG Tryz.underlying38 rfl h19 (qbD.ofRow h278 0 rfl ok) e280 ⟨_,qbw,rfl⟩ rfl rfl rfl rfl λc281 M282 a w E ok h283=>av E rfl λa E=>wpList_nil<|qal<|qaa<|qab<|lw E (qaH rfl rfl (InR.inc r20 (qas hparts_0) c21)) λa E=>mv E rfl λa E=>wpList_nil ?_
     cases hF
     exact qau ⟨m274,c281,M282,le_m0,(ok.pk 5 [4,1,2] rfl (by decide)),E.keep [1,6,18,19,20],h283,(InR.inc r20 (qas hparts_0) c21)⟩
   rintro⟨v229,v230⟩ a w r ⟨m231,c232,M233,hle,ok,E,h234,r235⟩ hF
   replace hF:qgL (qco N) N x0 x22 v229 v230=some r:=hF
   unfold qgL at hF
   have le_m16:=Mem.le.refl m16
   have le_m0:=le_m0.trans hle
   have le_m16:=le_m16.trans hle
   have hparts_0:=(mL qah).up hle hparts_0
   have hm0:=OMap.up (qbc mS) hle hm0
   have h19:=ORow.up qah hle h19
   have h36:=(mL qaE).up hle h36
   have h38:=(mL qah).up hle h38
   have at29:=At.up hle at29
   refine sg<|lw E (qaP rfl rfl) λa E=>wn<|wp_seq<|cg E rfl hF (λc236 hF=>?_) λc236 hF=>?_
   ·refine wp_exit<|qaM ?_
    cases hF
    exact so (sl ⟨rfl,⟨m231,c232,M233,le_m16,ok,E.keep [1,6,8,11,18,19,20],h234⟩⟩)
   refine wp_skip<|qaa<|wp_seq<|wp_block<|sg ?_
   obtain⟨x237,e238,hF⟩:=bnd hF
   obtain⟨b239,o240,es241,hl242,rr243,at244,yy245⟩:=ia E 49 51 qch h36 e238
   obtain⟨c247,rfl,l246,h248⟩:=rr243
   refine lv E ok (yy245 _ _) λa E=>lv E ok (qao (cs:=[vs x237.Key,c247]) qfE rfl rfl (Holds.ro at244)) λa E=>qaL E ok qb0 rfl rfl λb249 a w E ok=>qai E ok 0 rfl rfl rfl qgc rfl rfl ⟨rfl,(qbT h248),trivial⟩ rfl rfl λw ok=>wn<|sg<|fk E ok qeL qcr rfl 0 rfl rfl λa E=>mv E rfl λa E=>?_
   obtain⟨r250,e251,hF⟩:=bnd hF
   replace ok:Ok u m231 ([]::Mm0::[(b249,oc 93 [vs x237.Key,c247])]::M233::[(b39,oc 90 [vi x22.Kind,vs x22.Text,vs x22.Name,vs x22.Style,c35,c37])]::M18::S) w:=(ok.pk 6 [4,5,0,1,2,3] rfl (by decide))
   refine qae E qk1 rfl (ih_memory_renamed _ x237.Parts h248 x0 hm0 e251 hG ok) rfl rfl ?_
   rintro _ w ⟨m252,c253,rfl,hle,ok,h254⟩
   have le_m0:=le_m0.trans hle
   have le_m16:=le_m16.trans hle
   have hparts_0:=(mL qah).up hle hparts_0
   have hm0:=OMap.up (qbc mS) hle hm0
   have h19:=ORow.up qah hle h19
   have h36:=(mL qaE).up hle h36
   have h38:=(mL qah).up hle h38
   have at29:=At.up hle at29
   have h234:=ORow.up qaE hle h234
   have h248:=(mL qah).up hle h248
   have at244:=At.up hle at244
   refine⟨_,rfl,λa E=>?_⟩
   refine mv E rfl λa E=>lw E (qag rfl rfl) λa E=>lw E (qag rfl rfl) λa E=>av E rfl λa E=>aw E rfl λa E=>wp_seq<|sg<|mv E rfl λa E=>lw E (qa9 rfl) λa E=>wn<|cf E rfl hF (λc255 hF=>?_) λc255 hF=>?_
   ·refine sg<|av E rfl λa E=>aw E rfl λa E=>wp_ret<|qak<|qaA<|qak ?_
    cases hF
    exact so (sr ⟨rfl,⟨m252,(.slice none 0 0),le_m0,(ok.pk 6 [0,1] rfl (by decide)),E.d,⟨rv_t E rfl,rv_t E rfl,trivial⟩,qbt⟩⟩)
   refine wp_skip<|qaa<|qab<|mv E rfl λa E=>fk E ok qgi qax rfl 2 rfl rfl λa E=>mv E rfl λa E=>lw E (qbY (ps:=[(0,.tmp 66),(1,.tmp 67)]) (qs:=[(0,[vs x237.Key]),(1,[c253])]) (cs:=[vs x237.Key,c253]) qb0 qhU rfl ⟨rfl,rfl,rfl,⟨rfl,(qdy h254),rfl,trivial⟩⟩ rfl) λa E=>qbF (R:=qcY) (xo:=[.tmp 68]) (xs:=([(Case.mk x237.Key r250.1)]:List (Case))) E ok qch qb0 rfl ⟨⟨_,rfl,rfl,⟨_,rfl,l246,h254⟩⟩,trivial⟩ rfl rfl rfl rfl λc256 M257 a w E ok h258=>bd hF λl259 e260 hF=>qcf (R:=qcY) E ok 4 qaE qch Tryz.underlying88 rfl h234 (qbD.ofRow h258 0 rfl ok) e260 ⟨_,qb0,rfl⟩ rfl rfl rfl rfl λc261 M262 a w E ok h263=>av E rfl λa E=>wpList_nil<|qal<|qaa<|qab<|lw E (qaH rfl rfl (InR.inc r235 (qas h36) c236)) λa E=>mv E rfl λa E=>wpList_nil ?_
   cases hF
   exact qau ⟨m252,c261,M262,le_m16,(ok.pk 7 [4,5,6,1,2] rfl (by decide)),E.keep [1,6,8,11,18,19,20,49,50,51],h263,(InR.inc r235 (qas h36) c236)⟩
 refine fk E ok qbm qaN rfl 0 rfl rfl λa E=>lw E (qbg rfl rfl) λa E=>pt E rfl rfl λa E=>mv E rfl λa E=>bw E 32 hF (λc41 hF E=>?_) λc41 hF E=>?_
 ·as_aux_lemma=>
   refine lsq E λa E=>ls E λa E=>pf E rfl rfl λa E=>wn<|c_if E rfl (λh=>by cases h) (λ_=>?_)
   refine wp_skip<|qaa<|sg<|aw E rfl λa E=>wp_seq<|sg<|fk E ok qdN qfx rfl 0 rfl rfl λa E=>lv E ok (qa8 qch h36 rfl) λa E=>mv E rfl λa E=>wn<|wp_block ?_
   obtain⟨M147,ok,h148⟩:=qd9 (e:=93) (k:=2) (R:=qcY) ok
   refine bd hF λo149 hL hF=>qbb _ (λ(s:(List (Case))×Int) a w=>∃ m150 c151 M152,m16.le m150∧Ok u m150 (M152::[(b39,oc 90 [vi x22.Kind,vs x22.Text,vs x22.Name,vs x22.Style,c35,c37])]::M18::[]::Mm0::S) w∧Env 91 a [(1,vm0),(6,c17),(8,vp b39),(11,c151),(18,vparts_0),(19,(vi (parts_0.length:Int))),(20,vi v15),(49,c35),(50,(vi (x22.Cases.length:Int))),(51,vi s.2)]∧ORow 93 2 qcY m150 c151 s.1 M152∧InR .i64 s.2) (λ(b:(((List (Case)))⊕((List (Part))×Bool))) e a w=>(Sum.elim (λb210=>e=(.exit 2)∧∃ m211 c212 M213,m16.le m211∧Ok u m211 (M213::[(b39,oc 90 [vi x22.Kind,vs x22.Text,vs x22.Name,vs x22.Style,c35,c37])]::M18::[]::Mm0::S) w∧Env 91 a [(1,vm0),(6,c17),(8,vp b39),(11,c212),(18,vparts_0),(19,(vi (parts_0.length:Int))),(20,vi v15)]∧ORow 93 2 qcY m211 c212 b210 M213) (λb215=>e=.ret∧qd2 u m0 S x0 vm0 Mm0 b215 a w)) b) ?_ ?_ N _ a w hL ⟨m16,(Value.slice none 0 0),M147,Mem.le.refl _,ok,E.keep [1,6,8,11,18,19,20,49,50,51],h148,(ir 0)⟩
   rotate_left
   ·as_aux_lemma=>
     intro e a w _ hO
     rcases o149 with o149 | o149
     rotate_left
     ·have hF:=qnw hF
      obtain⟨rfl,hret⟩:=hO
      refine qaA<|qak<|qaA<|qak ?_
      cases hF
      exact so (sr ⟨rfl,hret⟩)
     have hF:=qdI hF
     obtain⟨rfl,m190,c191,M192,hle,ok,E,h193⟩:=hO
     have le_m0:=le_m0.trans hle
     have hparts_0:=(mL qah).up hle hparts_0
     have hm0:=OMap.up (qbc mS) hle hm0
     have h19:=ORow.up qah hle h19
     have h36:=(mL qaE).up hle h36
     have h38:=(mL qah).up hle h38
     have at29:=At.up hle at29
     refine qbh<|qaa<|sg<|fk E ok qc1 qcr rfl 1 rfl rfl λa E=>mv E rfl λa E=>?_
     obtain⟨r194,e195,hF⟩:=bnd hF
     replace ok:Ok u m190 ([]::Mm0::M192::[(b39,oc 90 [vi x22.Kind,vs x22.Text,vs x22.Name,vs x22.Style,c35,c37])]::M18::S) w:=(ok.pk 5 [3,4,0,1,2] rfl (by decide))
     refine qae E qk1 rfl (ih_memory_renamed _ x22.Parts h38 x0 hm0 e195 hG ok) rfl rfl ?_
     rintro _ w ⟨m196,c197,rfl,hle,ok,h198⟩
     have le_m0:=le_m0.trans hle
     have hparts_0:=(mL qah).up hle hparts_0
     have hm0:=OMap.up (qbc mS) hle hm0
     have h19:=ORow.up qah hle h19
     have h36:=(mL qaE).up hle h36
     have h38:=(mL qah).up hle h38
     have at29:=At.up hle at29
     have h193:=ORow.up qaE hle h193
     refine⟨_,rfl,λa E=>?_⟩
     refine mv E rfl λa E=>lw E (qag rfl rfl) λa E=>lw E (qag rfl rfl) λa E=>av E rfl λa E=>aw E rfl λa E=>wp_seq<|sg<|mv E rfl λa E=>lw E (qa9 rfl) λa E=>wn<|cf E rfl hF (λc199 hF=>?_) λc199 hF=>?_
     ·refine sg<|av E rfl λa E=>aw E rfl λa E=>wp_ret<|qak<|qaA<|qak ?_
      cases hF
      exact so (sr ⟨rfl,⟨m196,(.slice none 0 0),le_m0,(ok.pk 5 [0,1] rfl (by decide)),E.d,⟨rv_t E rfl,rv_t E rfl,trivial⟩,qbt⟩⟩)
     refine wp_skip<|qaa<|sg<|mz E rfl rfl λa E=>fv E qdN rfl λa E=>qai E ok 3 rfl rfl rfl qm9 (ORow.cells h193) rfl ⟨(ORow.one h193),trivial⟩ rfl rfl λw ok=>fv E qc1 rfl λa E=>qai E ok 3 rfl rfl rfl qgz (qdy h198) rfl ⟨(qbT h198),trivial⟩ rfl rfl λw ok=>wn<|qab<|mv E rfl λa E=>lv E ok (qao (cs:=[vi x22.Kind,vs x22.Text,vs x22.Name,vs x22.Style,c191,c197]) qct rfl rfl (Holds.own 3 rfl rfl)) λa E=>?_
     obtain⟨m200,hle,ok,hfz⟩:=(ok.frs 2 rfl).freeze
     have h201:=ORow.froz qaE h193 hle hfz (by decide)
     have le_m0:=le_m0.trans hle
     have hparts_0:=(mL qah).up hle hparts_0
     have hm0:=OMap.up (qbc mS) hle hm0
     have h19:=ORow.up qah hle h19
     have h36:=(mL qaE).up hle h36
     have h38:=(mL qah).up hle h38
     have at29:=At.up hle at29
     have h198:=(mL qah).up hle h198
     refine qbF (R:=qaS) (xo:=[.tmp 86]) (xs:=([(Part.mk x22.Kind x22.Text x22.Name x22.Style o149 r194.1)]:List (Part))) E ok qbG qbw rfl ⟨⟨_,rfl,rfl,(qbd.2 ⟨_,_,rfl,r31,l32,l33,l34,h201,h198⟩)⟩,trivial⟩ rfl rfl rfl rfl λc202 M203 a w E ok h204=>bd hF λl205 e206 hF=>qcf (R:=qaS) E ok 4 qah qbG Tryz.underlying38 rfl h19 (qbD.ofRow h204 0 rfl ok) e206 ⟨_,qbw,rfl⟩ rfl rfl rfl rfl λc207 M208 a w E ok h209=>av E rfl λa E=>wpList_nil<|qal<|qaa<|qab<|lw E (qaH rfl rfl (InR.inc r20 (qas hparts_0) c21)) λa E=>mv E rfl λa E=>wpList_nil ?_
     cases hF
     exact qau ⟨m200,c207,M208,le_m0,(ok.pk 5 [4,1,2] rfl (by decide)),E.keep [1,6,18,19,20],h209,(InR.inc r20 (qas hparts_0) c21)⟩
   rintro⟨v155,v156⟩ a w r ⟨m157,c158,M159,hle,ok,E,h160,r161⟩ hF
   replace hF:qgM (qco N) N x0 x22 v155 v156=some r:=hF
   unfold qgM at hF
   have le_m16:=Mem.le.refl m16
   have le_m0:=le_m0.trans hle
   have le_m16:=le_m16.trans hle
   have hparts_0:=(mL qah).up hle hparts_0
   have hm0:=OMap.up (qbc mS) hle hm0
   have h19:=ORow.up qah hle h19
   have h36:=(mL qaE).up hle h36
   have h38:=(mL qah).up hle h38
   have at29:=At.up hle at29
   refine sg<|lw E (qaP rfl rfl) λa E=>wn<|wp_seq<|cg E rfl hF (λc162 hF=>?_) λc162 hF=>?_
   ·refine wp_exit<|qaM ?_
    cases hF
    exact so (sl ⟨rfl,⟨m157,c158,M159,le_m16,ok,E.keep [1,6,8,11,18,19,20],h160⟩⟩)
   refine wp_skip<|qaa<|wp_seq<|wp_block<|sg ?_
   obtain⟨x163,e164,hF⟩:=bnd hF
   obtain⟨b165,o166,es167,hl168,rr169,at170,yy171⟩:=ia E 49 51 qch h36 e164
   obtain⟨c173,rfl,l172,h174⟩:=rr169
   refine lv E ok (yy171 _ _) λa E=>lv E ok (qao (cs:=[vs x163.Key,c173]) qfE rfl rfl (Holds.ro at170)) λa E=>qaL E ok qb0 rfl rfl λb175 a w E ok=>qai E ok 0 rfl rfl rfl qgc rfl rfl ⟨rfl,(qbT h174),trivial⟩ rfl rfl λw ok=>wn<|sg<|fk E ok qeL qcr rfl 0 rfl rfl λa E=>mv E rfl λa E=>?_
   obtain⟨r176,e177,hF⟩:=bnd hF
   replace ok:Ok u m157 ([]::Mm0::[(b175,oc 93 [vs x163.Key,c173])]::M159::[(b39,oc 90 [vi x22.Kind,vs x22.Text,vs x22.Name,vs x22.Style,c35,c37])]::M18::S) w:=(ok.pk 6 [4,5,0,1,2,3] rfl (by decide))
   refine qae E qk1 rfl (ih_memory_renamed _ x163.Parts h174 x0 hm0 e177 hG ok) rfl rfl ?_
   rintro _ w ⟨m178,c179,rfl,hle,ok,h180⟩
   have le_m0:=le_m0.trans hle
   have le_m16:=le_m16.trans hle
   have hparts_0:=(mL qah).up hle hparts_0
   have hm0:=OMap.up (qbc mS) hle hm0
   have h19:=ORow.up qah hle h19
   have h36:=(mL qaE).up hle h36
   have h38:=(mL qah).up hle h38
   have at29:=At.up hle at29
   have h160:=ORow.up qaE hle h160
   have h174:=(mL qah).up hle h174
   have at170:=At.up hle at170
   refine⟨_,rfl,λa E=>?_⟩
   refine mv E rfl λa E=>lw E (qag rfl rfl) λa E=>lw E (qag rfl rfl) λa E=>av E rfl λa E=>aw E rfl λa E=>wp_seq<|sg<|mv E rfl λa E=>lw E (qa9 rfl) λa E=>wn<|cf E rfl hF (λc181 hF=>?_) λc181 hF=>?_
   ·refine sg<|av E rfl λa E=>aw E rfl λa E=>wp_ret<|qak<|qaA<|qak ?_
    cases hF
    exact so (sr ⟨rfl,⟨m178,(.slice none 0 0),le_m0,(ok.pk 6 [0,1] rfl (by decide)),E.d,⟨rv_t E rfl,rv_t E rfl,trivial⟩,qbt⟩⟩)
   refine wp_skip<|qaa<|qab<|mv E rfl λa E=>fk E ok qgi qax rfl 2 rfl rfl λa E=>mv E rfl λa E=>lw E (qbY (ps:=[(0,.tmp 66),(1,.tmp 67)]) (qs:=[(0,[vs x163.Key]),(1,[c179])]) (cs:=[vs x163.Key,c179]) qb0 qhU rfl ⟨rfl,rfl,rfl,⟨rfl,(qdy h180),rfl,trivial⟩⟩ rfl) λa E=>qbF (R:=qcY) (xo:=[.tmp 68]) (xs:=([(Case.mk x163.Key r176.1)]:List (Case))) E ok qch qb0 rfl ⟨⟨_,rfl,rfl,⟨_,rfl,l172,h180⟩⟩,trivial⟩ rfl rfl rfl rfl λc182 M183 a w E ok h184=>bd hF λl185 e186 hF=>qcf (R:=qcY) E ok 4 qaE qch Tryz.underlying88 rfl h160 (qbD.ofRow h184 0 rfl ok) e186 ⟨_,qb0,rfl⟩ rfl rfl rfl rfl λc187 M188 a w E ok h189=>av E rfl λa E=>wpList_nil<|qal<|qaa<|qab<|lw E (qaH rfl rfl (InR.inc r161 (qas h36) c162)) λa E=>mv E rfl λa E=>wpList_nil ?_
   cases hF
   exact qau ⟨m178,c187,M188,le_m16,(ok.pk 7 [4,5,6,1,2] rfl (by decide)),E.keep [1,6,8,11,18,19,20,49,50,51],h189,(InR.inc r161 (qas h36) c162)⟩
 refine fk E ok qbm qaN rfl 0 rfl rfl λa E=>lw E (qbg rfl rfl) λa E=>pt E rfl rfl λa E=>wn<|bd hF λo42 hJ hF=>qaO (Q':=λe a w=>(Sum.elim (λb43=>e=.normal∧∃ c48 c50,Ok u m16 ([(b39,oc 90 [vi b43.Kind,vs b43.Text,vs b43.Name,vs b43.Style,c48,c50])]::M18::[]::Mm0::S) w∧Env 91 a [(1,vm0),(6,c17),(8,vp b39),(18,vparts_0),(19,(vi (parts_0.length:Int))),(20,vi v15)]∧InR .i64 b43.Kind∧b43.Text.length≤LIMS∧b43.Name.length≤LIMS∧b43.Style.length≤LIMS∧(pL 2 qcY) m16 [c48] b43.Cases∧(pL 6 qaS) m16 [c50] b43.Parts) (λb52=>e=.ret∧qd2 u m0 S x0 vm0 Mm0 b52 a w)) o42) ?_ ?_
 ·have hF:=hJ
  refine cg E rfl hF (λc53 hF=>?_) λc53 hF=>?_
  ·refine wp_skip ?_
   cases hF
   exact(sl ⟨rfl,⟨c35,c37,ok,E.keep [1,6,8,18,19,20],r31,l32,l33,l34,h36,h38⟩⟩)
  refine sg<|mv E rfl λa E=>fk E ok qbC qax rfl 0 rfl rfl λa E=>?_
  obtain⟨xv54,h55,yy56,yy57⟩:=qfC (P:=Tryz.prog) (mo:=.tmp 38) (ko:=.tmp 40) (zx:=([]:List UInt8)) ok 3 (qbe Tryz.underlying9) Tryz.underlying66 hm0 rfl (qaD E rfl) (qaD E rfl) ⟨rfl,l33⟩ qod (qb8 (Nat.zero_le _))
  obtain⟨rfl,l58⟩:=qkg h55
  refine lv E ok (yy57 _) λa E=>mv E rfl λa E=>lw E (qag rfl rfl) λa E=>lw E (qag rfl rfl) λa E=>av E rfl λa E=>aw E rfl λa E=>wp_seq<|sg<|mv E rfl λa E=>lw E (qa9 rfl) λa E=>wn<|cg E rfl hF (λc59 hF=>?_) λc59 hF=>?_
  ·refine wp_skip<|qaa<|qab<|mv E rfl λa E=>fv E qbC rfl λa E=>qai E ok 0 rfl rfl rfl qf2 rfl rfl ⟨rfl,trivial⟩ rfl rfl λw ok=>wpList_nil ?_
   cases hF
   exact(sl ⟨rfl,⟨c35,c37,ok,E.keep [1,6,8,18,19,20],r31,l32,l58,l34,h36,h38⟩⟩)
  refine sg<|av E rfl λa E=>aw E rfl λa E=>wp_ret<|qak ?_
  have hret:qd2 u m0 S x0 vm0 Mm0 ([],false) a w:=⟨m16,(.slice none 0 0),le_m0,ok.drop.drop,E.d,⟨rv_t E rfl,rv_t E rfl,trivial⟩,qbt⟩
  cases hF
  exact(sr ⟨rfl,hret⟩)
 intro e a w hO
 rcases o42 with o42 | o42
 rotate_left
 ·have hF:=qnw hF
  obtain⟨rfl,hret⟩:=hO
  refine qak<|qaA<|qak ?_
  cases hF
  exact so (sr ⟨rfl,hret⟩)
 have hF:=qdI hF
 obtain⟨rfl,c64,c66,ok,E,r60,l61,l62,l63,h65,h67⟩:=hO
 refine qaa<|sg<|aw E rfl λa E=>wp_seq<|sg<|fk E ok qdN qfx rfl 0 rfl rfl λa E=>lv E ok (qa8 qch h65 rfl) λa E=>mv E rfl λa E=>wn<|wp_block ?_
 obtain⟨M73,ok,h74⟩:=qd9 (e:=93) (k:=2) (R:=qcY) ok
 refine bd hF λo75 hL hF=>qbb _ (λ(s:(List (Case))×Int) a w=>∃ m76 c77 M78,m16.le m76∧Ok u m76 (M78::[(b39,oc 90 [vi o42.Kind,vs o42.Text,vs o42.Name,vs o42.Style,c64,c66])]::M18::[]::Mm0::S) w∧Env 91 a [(1,vm0),(6,c17),(8,vp b39),(11,c77),(18,vparts_0),(19,(vi (parts_0.length:Int))),(20,vi v15),(49,c64),(50,(vi (o42.Cases.length:Int))),(51,vi s.2)]∧ORow 93 2 qcY m76 c77 s.1 M78∧InR .i64 s.2) (λ(b:(((List (Case)))⊕((List (Part))×Bool))) e a w=>(Sum.elim (λb136=>e=(.exit 2)∧∃ m137 c138 M139,m16.le m137∧Ok u m137 (M139::[(b39,oc 90 [vi o42.Kind,vs o42.Text,vs o42.Name,vs o42.Style,c64,c66])]::M18::[]::Mm0::S) w∧Env 91 a [(1,vm0),(6,c17),(8,vp b39),(11,c138),(18,vparts_0),(19,(vi (parts_0.length:Int))),(20,vi v15)]∧ORow 93 2 qcY m137 c138 b136 M139) (λb141=>e=.ret∧qd2 u m0 S x0 vm0 Mm0 b141 a w)) b) ?_ ?_ N _ a w hL ⟨m16,(Value.slice none 0 0),M73,Mem.le.refl _,ok,E.keep [1,6,8,11,18,19,20,49,50,51],h74,(ir 0)⟩
 rotate_left
 ·as_aux_lemma=>
   intro e a w _ hO
   rcases o75 with o75 | o75
   rotate_left
   ·have hF:=qnw hF
    obtain⟨rfl,hret⟩:=hO
    refine qaA<|qak<|qaA<|qak ?_
    cases hF
    exact so (sr ⟨rfl,hret⟩)
   have hF:=qdI hF
   obtain⟨rfl,m116,c117,M118,hle,ok,E,h119⟩:=hO
   have le_m0:=le_m0.trans hle
   have hparts_0:=(mL qah).up hle hparts_0
   have hm0:=OMap.up (qbc mS) hle hm0
   have h19:=ORow.up qah hle h19
   have h36:=(mL qaE).up hle h36
   have h38:=(mL qah).up hle h38
   have at29:=At.up hle at29
   have h65:=(mL qaE).up hle h65
   have h67:=(mL qah).up hle h67
   refine qbh<|qaa<|sg<|fk E ok qc1 qcr rfl 1 rfl rfl λa E=>mv E rfl λa E=>?_
   obtain⟨r120,e121,hF⟩:=bnd hF
   replace ok:Ok u m116 ([]::Mm0::M118::[(b39,oc 90 [vi o42.Kind,vs o42.Text,vs o42.Name,vs o42.Style,c64,c66])]::M18::S) w:=(ok.pk 5 [3,4,0,1,2] rfl (by decide))
   refine qae E qk1 rfl (ih_memory_renamed _ o42.Parts h67 x0 hm0 e121 hG ok) rfl rfl ?_
   rintro _ w ⟨m122,c123,rfl,hle,ok,h124⟩
   have le_m0:=le_m0.trans hle
   have hparts_0:=(mL qah).up hle hparts_0
   have hm0:=OMap.up (qbc mS) hle hm0
   have h19:=ORow.up qah hle h19
   have h36:=(mL qaE).up hle h36
   have h38:=(mL qah).up hle h38
   have at29:=At.up hle at29
   have h65:=(mL qaE).up hle h65
   have h67:=(mL qah).up hle h67
   have h119:=ORow.up qaE hle h119
   refine⟨_,rfl,λa E=>?_⟩
   refine mv E rfl λa E=>lw E (qag rfl rfl) λa E=>lw E (qag rfl rfl) λa E=>av E rfl λa E=>aw E rfl λa E=>wp_seq<|sg<|mv E rfl λa E=>lw E (qa9 rfl) λa E=>wn<|cf E rfl hF (λc125 hF=>?_) λc125 hF=>?_
   ·refine sg<|av E rfl λa E=>aw E rfl λa E=>wp_ret<|qak<|qaA<|qak ?_
    cases hF
    exact so (sr ⟨rfl,⟨m122,(.slice none 0 0),le_m0,(ok.pk 5 [0,1] rfl (by decide)),E.d,⟨rv_t E rfl,rv_t E rfl,trivial⟩,qbt⟩⟩)
   refine wp_skip<|qaa<|sg<|mz E rfl rfl λa E=>fv E qdN rfl λa E=>qai E ok 3 rfl rfl rfl qm9 (ORow.cells h119) rfl ⟨(ORow.one h119),trivial⟩ rfl rfl λw ok=>fv E qc1 rfl λa E=>qai E ok 3 rfl rfl rfl qgz (qdy h124) rfl ⟨(qbT h124),trivial⟩ rfl rfl λw ok=>wn<|qab<|mv E rfl λa E=>lv E ok (qao (cs:=[vi o42.Kind,vs o42.Text,vs o42.Name,vs o42.Style,c117,c123]) qct rfl rfl (Holds.own 3 rfl rfl)) λa E=>?_
   obtain⟨m126,hle,ok,hfz⟩:=(ok.frs 2 rfl).freeze
   have h127:=ORow.froz qaE h119 hle hfz (by decide)
   have le_m0:=le_m0.trans hle
   have hparts_0:=(mL qah).up hle hparts_0
   have hm0:=OMap.up (qbc mS) hle hm0
   have h19:=ORow.up qah hle h19
   have h36:=(mL qaE).up hle h36
   have h38:=(mL qah).up hle h38
   have at29:=At.up hle at29
   have h65:=(mL qaE).up hle h65
   have h67:=(mL qah).up hle h67
   have h124:=(mL qah).up hle h124
   refine qbF (R:=qaS) (xo:=[.tmp 86]) (xs:=([(Part.mk o42.Kind o42.Text o42.Name o42.Style o75 r120.1)]:List (Part))) E ok qbG qbw rfl ⟨⟨_,rfl,rfl,(qbd.2 ⟨_,_,rfl,r60,l61,l62,l63,h127,h124⟩)⟩,trivial⟩ rfl rfl rfl rfl λc128 M129 a w E ok h130=>bd hF λl131 e132 hF=>qcf (R:=qaS) E ok 4 qah qbG Tryz.underlying38 rfl h19 (qbD.ofRow h130 0 rfl ok) e132 ⟨_,qbw,rfl⟩ rfl rfl rfl rfl λc133 M134 a w E ok h135=>av E rfl λa E=>wpList_nil<|qal<|qaa<|qab<|lw E (qaH rfl rfl (InR.inc r20 (qas hparts_0) c21)) λa E=>mv E rfl λa E=>wpList_nil ?_
   cases hF
   exact qau ⟨m126,c133,M134,le_m0,(ok.pk 5 [4,1,2] rfl (by decide)),E.keep [1,6,18,19,20],h135,(InR.inc r20 (qas hparts_0) c21)⟩
 rintro⟨v81,v82⟩ a w r ⟨m83,c84,M85,hle,ok,E,h86,r87⟩ hF
 replace hF:qdj (qco N) N x0 o42 v81 v82=some r:=hF
 unfold qdj at hF
 have le_m16:=Mem.le.refl m16
 have le_m0:=le_m0.trans hle
 have le_m16:=le_m16.trans hle
 have hparts_0:=(mL qah).up hle hparts_0
 have hm0:=OMap.up (qbc mS) hle hm0
 have h19:=ORow.up qah hle h19
 have h36:=(mL qaE).up hle h36
 have h38:=(mL qah).up hle h38
 have at29:=At.up hle at29
 have h65:=(mL qaE).up hle h65
 have h67:=(mL qah).up hle h67
 refine sg<|lw E (qaP rfl rfl) λa E=>wn<|wp_seq<|cg E rfl hF (λc88 hF=>?_) λc88 hF=>?_
 ·refine wp_exit<|qaM ?_
  cases hF
  exact so (sl ⟨rfl,⟨m83,c84,M85,le_m16,ok,E.keep [1,6,8,11,18,19,20],h86⟩⟩)
 refine wp_skip<|qaa<|wp_seq<|wp_block<|sg ?_
 obtain⟨x89,e90,hF⟩:=bnd hF
 obtain⟨b91,o92,es93,hl94,rr95,at96,yy97⟩:=ia E 49 51 qch h65 e90
 obtain⟨c99,rfl,l98,h100⟩:=rr95
 refine lv E ok (yy97 _ _) λa E=>lv E ok (qao (cs:=[vs x89.Key,c99]) qfE rfl rfl (Holds.ro at96)) λa E=>qaL E ok qb0 rfl rfl λb101 a w E ok=>qai E ok 0 rfl rfl rfl qgc rfl rfl ⟨rfl,(qbT h100),trivial⟩ rfl rfl λw ok=>wn<|sg<|fk E ok qeL qcr rfl 0 rfl rfl λa E=>mv E rfl λa E=>?_
 obtain⟨r102,e103,hF⟩:=bnd hF
 replace ok:Ok u m83 ([]::Mm0::[(b101,oc 93 [vs x89.Key,c99])]::M85::[(b39,oc 90 [vi o42.Kind,vs o42.Text,vs o42.Name,vs o42.Style,c64,c66])]::M18::S) w:=(ok.pk 6 [4,5,0,1,2,3] rfl (by decide))
 refine qae E qk1 rfl (ih_memory_renamed _ x89.Parts h100 x0 hm0 e103 hG ok) rfl rfl ?_
 rintro _ w ⟨m104,c105,rfl,hle,ok,h106⟩
 have le_m0:=le_m0.trans hle
 have le_m16:=le_m16.trans hle
 have hparts_0:=(mL qah).up hle hparts_0
 have hm0:=OMap.up (qbc mS) hle hm0
 have h19:=ORow.up qah hle h19
 have h36:=(mL qaE).up hle h36
 have h38:=(mL qah).up hle h38
 have at29:=At.up hle at29
 have h65:=(mL qaE).up hle h65
 have h67:=(mL qah).up hle h67
 have h86:=ORow.up qaE hle h86
 have h100:=(mL qah).up hle h100
 have at96:=At.up hle at96
 refine⟨_,rfl,λa E=>?_⟩
 refine mv E rfl λa E=>lw E (qag rfl rfl) λa E=>lw E (qag rfl rfl) λa E=>av E rfl λa E=>aw E rfl λa E=>wp_seq<|sg<|mv E rfl λa E=>lw E (qa9 rfl) λa E=>wn<|cf E rfl hF (λc107 hF=>?_) λc107 hF=>?_
 ·refine sg<|av E rfl λa E=>aw E rfl λa E=>wp_ret<|qak<|qaA<|qak ?_
  cases hF
  exact so (sr ⟨rfl,⟨m104,(.slice none 0 0),le_m0,(ok.pk 6 [0,1] rfl (by decide)),E.d,⟨rv_t E rfl,rv_t E rfl,trivial⟩,qbt⟩⟩)
 refine wp_skip<|qaa<|qab<|mv E rfl λa E=>fk E ok qgi qax rfl 2 rfl rfl λa E=>mv E rfl λa E=>lw E (qbY (ps:=[(0,.tmp 66),(1,.tmp 67)]) (qs:=[(0,[vs x89.Key]),(1,[c105])]) (cs:=[vs x89.Key,c105]) qb0 qhU rfl ⟨rfl,rfl,rfl,⟨rfl,(qdy h106),rfl,trivial⟩⟩ rfl) λa E=>qbF (R:=qcY) (xo:=[.tmp 68]) (xs:=([(Case.mk x89.Key r102.1)]:List (Case))) E ok qch qb0 rfl ⟨⟨_,rfl,rfl,⟨_,rfl,l98,h106⟩⟩,trivial⟩ rfl rfl rfl rfl λc108 M109 a w E ok h110=>bd hF λl111 e112 hF=>qcf (R:=qcY) E ok 4 qaE qch Tryz.underlying88 rfl h86 (qbD.ofRow h110 0 rfl ok) e112 ⟨_,qb0,rfl⟩ rfl rfl rfl rfl λc113 M114 a w E ok h115=>av E rfl λa E=>wpList_nil<|qal<|qaa<|qab<|lw E (qaH rfl rfl (InR.inc r87 (qas h65) c88)) λa E=>mv E rfl λa E=>wpList_nil ?_
 cases hF
 exact qau ⟨m104,c113,M114,le_m16,(ok.pk 7 [4,5,6,1,2] rfl (by decide)),E.keep [1,6,8,11,18,19,20,49,50,51],h115,(InR.inc r87 (qas h65) c88)⟩
theorem qli:qf1 0:=by
 intro u m0 S w vparts_0 parts_0 hparts_0 vm0 Mm0 x0 hm0 r hF hG ok
 replace hF:none=some r:=hF
 cases hF
theorem qjS(N:Nat):qf1 N:=by
 induction N with
 | zero=>exact qli
 | succ N h=>exact qll N h
theorem qmA{u:World}{m0:Mem}{S:Segs}{w:World}(N:Nat)(vparts_0:Value)(parts_0:List (Part))(hparts_0:(pL 6 qaS) m0 [vparts_0] parts_0){vm0:Value}{Mm0:List (Nat×Obj)}(x0:List (List UInt8×List UInt8))(hm0:OMap kS (oneV pS) m0 vm0 x0 Mm0){r:(List (Part))×Bool}(hF:qco N parts_0 x0=some r)(hG:Glob u)(ok:Ok u m0 ([]::Mm0::S) w) :
 Calls Tryz.prog 18 [vparts_0,vm0].toArray w λe w'=>∃ m1 v0,e=.returned (.tuple [v0,(.bool r.2)].toArray)∧m0.le m1∧Ok u m1 ([]::Mm0::S) w'∧(pL 6 qaS) m1 [v0] r.1:=(qjS N) vparts_0 parts_0 hparts_0 x0 hm0 hF hG ok
def qpC(u:World)(m0:Mem)(S:Segs)(r:(List UInt8)×Int)(a:Act)(w:World):Prop:=
 Ok u m0 S w∧a.defers=[]∧RVs Tryz.prog a w [.t 6 (.string (bs r.1)),.t 7 (.int .i64 r.2)]∧r.1.length≤LIMS∧InR .i64 r.2
theorem qhh(N:Nat)(source_0:List UInt8)(lsource_0:source_0.length≤LIMS)(target_1:List UInt8)(ltarget_1:target_1.length≤LIMS)(text_2:List UInt8)(ltext_2:text_2.length≤LIMS){r:(List UInt8)×Int}(hF:qeV N source_0 target_1 text_2=some r)(hG:Glob u)(ok:Ok u m0 S w) :
  Calls Tryz.prog 10 [vs source_0,vs target_1,vs text_2].toArray w λe w'=>(e=.returned (.tuple [(.string (bs r.1)),(.int .i64 r.2)].toArray)∧Ok u m0 S w')∧r.1.length≤LIMS∧InR .i64 r.2:=by
 have hb0:=ok.base
 have le_m0:=Mem.le.refl m0
 unfold qeV at hF
 refine en (qpC u m0 S) r Tryz.func10 rfl rfl rfl (by rintro a w ⟨ok,hd,hrv,h0,h1⟩;exact qbf [.t 6 (.string (bs r.1)),.t 7 (.int .i64 r.2)] hd rfl hrv ⟨⟨rfl,ok⟩,h0,h1⟩) λfin a E=>sg<|av E rfl λa E=>aw E rfl λa E=>sg<|qaL E ok qub rfl rfl λb1 a w E ok=>wn<|wp_seq<|sg<|mv E rfl λa E=>mz E rfl rfl λa E=>lv E ok (qmx (ps:=[(0,.tmp 23),(1,.tmp 24),(2,.tmp 25)]) (qs:=[(0,[vs source_0]),(1,[vs target_1]),(2,[vs text_2])]) (cs:=[vs source_0,vs target_1,vs text_2]) qui qvh rfl ⟨rfl,rfl,rfl,⟨rfl,rfl,rfl,⟨rfl,rfl,rfl,trivial⟩⟩⟩ rfl) λa E=>mv E rfl λa E=>wn<|wp_block<|qv2 9 ?_
 refine qoM<|sg<|lw E (qaP rfl rfl) λa E=>?_
 have E:=E.upd 28 (show(decide ((0:Int)<3))=true from rfl) rfl
 refine wn<|wp_seq<|c_if E rfl (λ_=>?_) (λh=>by cases h)
 refine wp_skip<|qaa<|wp_seq<|wp_block<|sg<|mv E rfl λa E=>bd hF λz2 e3 hF=>lv E ok (qpg (f:=λx=>vs x) (xs:=([source_0,target_1,text_2]:List (List UInt8))) Tryz.underlying62 qf2 qax rfl rfl rfl rfl e3) λa E=>av E rfl λa E=>aw E rfl λa E=>sg<|mv E rfl λa E=>bd hF λr4 e5 hF=>qae E qhq rfl (qcU N z2 (AllP.idx (q:=λx=>x.length≤LIMS) (xs:=([source_0,target_1,text_2]:List (List UInt8))) ⟨lsource_0,ltarget_1,ltext_2,trivial⟩ e3) e5 hG ok) rfl rfl ?_
 rintro _ w ⟨m6,c7,vs9,rfl,hle,ok,h8,h10,r11⟩
 have le_m0:=le_m0.trans hle
 obtain⟨rfl,r12,r13,r14⟩:=h10
 refine⟨_,rfl,λa E=>?_⟩
 refine mv E rfl λa E=>lw E (qag rfl rfl) λa E=>lw E (qag rfl rfl) λa E=>lw E (qag rfl rfl) λa E=>qaL E ok qc2 rfl rfl λb15 a w E ok=>av E rfl λa E=>qai E ok 0 rfl rfl rfl qdQ rfl rfl ⟨rfl,rfl,rfl,trivial⟩ rfl rfl λw ok=>av E rfl λa E=>wn<|wp_seq<|sg<|mv E rfl λa E=>lw E (qbg rfl rfl) λa E=>wn<|cf E rfl hF (λc16 hF=>?_) λc16 hF=>?_
 ·refine sg<|av E rfl λa E=>aw E rfl λa E=>wp_ret<|qak<|qaA<|qak<|.inr ⟨nofun,?_⟩
  refine qaA<|qak ?_
  exact fin hF ⟨(ok.drop.drop).down hb0 le_m0,E.d,⟨rv_t E rfl,rv_t E rfl,trivial⟩,(show([]:List UInt8).length≤LIMS by decide),(ir 3)⟩
 refine wp_skip<|qaa<|qab<|mz E rfl rfl λa E=>lv E ok (qh1 qj5 rfl rfl (by decide) (by decide)) λa E=>qai E ok 1 rfl rfl rfl qgz (qdy h8) rfl ⟨(qbT h8),trivial⟩ rfl rfl λw ok=>wpList_nil<|qal<|qaa<|qab<|lw E (qbk rfl rfl) λa E=>?_
 have E:=E.updV 42 (v:=(vi (IntKind.wrap .i64 ((0:Int)+1)))) (v':=(vi 1)) rfl rfl
 refine mv E rfl λa E=>wpList_nil<|.inl ⟨rfl,?_⟩
 refine qoM<|sg<|lw E (qaP rfl rfl) λa E=>?_
 have E:=E.upd 28 (show(decide ((1:Int)<3))=true from rfl) rfl
 refine wn<|wp_seq<|c_if E rfl (λ_=>?_) (λh=>by cases h)
 refine wp_skip<|qaa<|wp_seq<|wp_block<|sg<|mv E rfl λa E=>bd hF λz17 e18 hF=>lv E ok (qpg (f:=λx=>vs x) (xs:=([source_0,target_1,text_2]:List (List UInt8))) Tryz.underlying62 qf2 qax rfl rfl rfl rfl e18) λa E=>av E rfl λa E=>aw E rfl λa E=>sg<|mv E rfl λa E=>bd hF λr19 e20 hF=>qae E qhq rfl (qcU N z17 (AllP.idx (q:=λx=>x.length≤LIMS) (xs:=([source_0,target_1,text_2]:List (List UInt8))) ⟨lsource_0,ltarget_1,ltext_2,trivial⟩ e18) e20 hG ok) rfl rfl ?_
 rintro _ w ⟨m21,c22,vs24,rfl,hle,ok,h23,h25,r26⟩
 have le_m0:=le_m0.trans hle
 have h8:=(mL qah).up hle h8
 obtain⟨rfl,r27,r28,r29⟩:=h25
 refine⟨_,rfl,λa E=>?_⟩
 refine mv E rfl λa E=>lw E (qag rfl rfl) λa E=>lw E (qag rfl rfl) λa E=>lw E (qag rfl rfl) λa E=>qaL E ok qc2 rfl rfl λb30 a w E ok=>av E rfl λa E=>qai E ok 0 rfl rfl rfl qdQ rfl rfl ⟨rfl,rfl,rfl,trivial⟩ rfl rfl λw ok=>av E rfl λa E=>wn<|wp_seq<|sg<|mv E rfl λa E=>lw E (qbg rfl rfl) λa E=>wn<|cf E rfl hF (λc31 hF=>?_) λc31 hF=>?_
 ·refine sg<|av E rfl λa E=>aw E rfl λa E=>wp_ret<|qak<|qaA<|qak<|.inr ⟨nofun,?_⟩
  refine qaA<|qak ?_
  exact fin hF ⟨(ok.drop.drop.drop).down hb0 le_m0,E.d,⟨rv_t E rfl,rv_t E rfl,trivial⟩,(show([]:List UInt8).length≤LIMS by decide),(ir 3)⟩
 refine wp_skip<|qaa<|qab<|mz E rfl rfl λa E=>lv E ok (qh1 qj5 rfl rfl (by decide) (by decide)) λa E=>qai E ok 2 rfl rfl rfl qgz (qdy h23) rfl ⟨(qbT h23),trivial⟩ rfl rfl λw ok=>wpList_nil<|qal<|qaa<|qab<|lw E (qbk rfl rfl) λa E=>?_
 have E:=E.updV 42 (v:=(vi (IntKind.wrap .i64 ((1:Int)+1)))) (v':=(vi 2)) rfl rfl
 refine mv E rfl λa E=>wpList_nil<|.inl ⟨rfl,?_⟩
 refine qoM<|sg<|lw E (qaP rfl rfl) λa E=>?_
 have E:=E.upd 28 (show(decide ((2:Int)<3))=true from rfl) rfl
 refine wn<|wp_seq<|c_if E rfl (λ_=>?_) (λh=>by cases h)
 refine wp_skip<|qaa<|wp_seq<|wp_block<|sg<|mv E rfl λa E=>bd hF λz32 e33 hF=>lv E ok (qpg (f:=λx=>vs x) (xs:=([source_0,target_1,text_2]:List (List UInt8))) Tryz.underlying62 qf2 qax rfl rfl rfl rfl e33) λa E=>av E rfl λa E=>aw E rfl λa E=>sg<|mv E rfl λa E=>bd hF λr34 e35 hF=>qae E qhq rfl (qcU N z32 (AllP.idx (q:=λx=>x.length≤LIMS) (xs:=([source_0,target_1,text_2]:List (List UInt8))) ⟨lsource_0,ltarget_1,ltext_2,trivial⟩ e33) e35 hG ok) rfl rfl ?_
 rintro _ w ⟨m36,c37,vs39,rfl,hle,ok,h38,h40,r41⟩
 have le_m0:=le_m0.trans hle
 have h8:=(mL qah).up hle h8
 have h23:=(mL qah).up hle h23
 obtain⟨rfl,r42,r43,r44⟩:=h40
 refine⟨_,rfl,λa E=>?_⟩
 refine mv E rfl λa E=>lw E (qag rfl rfl) λa E=>lw E (qag rfl rfl) λa E=>lw E (qag rfl rfl) λa E=>qaL E ok qc2 rfl rfl λb45 a w E ok=>av E rfl λa E=>qai E ok 0 rfl rfl rfl qdQ rfl rfl ⟨rfl,rfl,rfl,trivial⟩ rfl rfl λw ok=>av E rfl λa E=>wn<|wp_seq<|sg<|mv E rfl λa E=>lw E (qbg rfl rfl) λa E=>wn<|cf E rfl hF (λc46 hF=>?_) λc46 hF=>?_
 ·refine sg<|av E rfl λa E=>aw E rfl λa E=>wp_ret<|qak<|qaA<|qak<|.inr ⟨nofun,?_⟩
  refine qaA<|qak ?_
  exact fin hF ⟨(ok.drop.drop.drop.drop).down hb0 le_m0,E.d,⟨rv_t E rfl,rv_t E rfl,trivial⟩,(show([]:List UInt8).length≤LIMS by decide),(ir 3)⟩
 refine wp_skip<|qaa<|qab<|mz E rfl rfl λa E=>lv E ok (qh1 qj5 rfl rfl (by decide) (by decide)) λa E=>qai E ok 3 rfl rfl rfl qgz (qdy h38) rfl ⟨(qbT h38),trivial⟩ rfl rfl λw ok=>wpList_nil<|qal<|qaa<|qab<|lw E (qbk rfl rfl) λa E=>?_
 have E:=E.updV 42 (v:=(vi (IntKind.wrap .i64 ((2:Int)+1)))) (v':=(vi 3)) rfl rfl
 refine mv E rfl λa E=>wpList_nil<|.inl ⟨rfl,?_⟩
 refine qoM<|sg<|lw E (qaP rfl rfl) λa E=>?_
 have E:=E.upd 28 (show(decide ((3:Int)<3))=false from rfl) rfl
 refine wn<|wp_seq<|c_if E rfl (λh=>by cases h) (λ_=>?_)
 refine wp_exit<|qaM<|.inr ⟨nofun,?_⟩
 refine qbh<|qaa<|sg<|lv E ok (qh1 qj5 rfl rfl (by decide) (by decide)) λa E=>ld E ok qcr 3 rfl rfl rfl λa E=>lv E ok (qh1 qj5 rfl rfl (by decide) (by decide)) λa E=>ld E ok qcr 3 rfl rfl rfl λa E=>bd hF λr47 e48 hF=>qae E qvG rfl (qmg N _ r4.1 h8 _ r34.1 h38 e48 hG ok) rfl rfl ?_
 rintro _ w ⟨m49,c50,rfl,hle,ok,h51⟩
 have le_m0:=le_m0.trans hle
 have h8:=(mL qah).up hle h8
 have h23:=(mL qah).up hle h23
 have h38:=(mL qah).up hle h38
 refine⟨_,rfl,λa E=>?_⟩
 refine mv E rfl λa E=>lw E (qag rfl rfl) λa E=>lw E (qag rfl rfl) λa E=>av E rfl λa E=>aw E rfl λa E=>sg<|qf0 kS (oneV pS) E ok rfl rfl λc52 M53 a w E ok h54=>aw E rfl λa E=>wp_seq<|sg<|mv E rfl λa E=>lv E ok (qa8 qhN h51 rfl) λa E=>mv E rfl λa E=>wn<|wp_block<|bd hF λo60 hL hF=>qbb _ (λ(s:Int×(List (List UInt8×List UInt8))) a w=>∃ c62 M63,Ok u m49 (M63::[(b45,oc 40 [vi r34.2.1.Offset,vi r34.2.1.Line,vi r34.2.1.Column])]::[(b30,oc 40 [vi r19.2.1.Offset,vi r19.2.1.Line,vi r19.2.1.Column])]::[(b15,oc 40 [vi r4.2.1.Offset,vi r4.2.1.Line,vi r4.2.1.Column])]::[(b1,oc 61 [c7,c22,c37])]::S) w∧Env 85 a [(8,vp b1),(15,vb r47.2),(16,c62),(52,c50),(53,(vi (r47.1.length:Int))),(54,vi s.1)]∧InR .i64 s.1∧OMap kS (oneV pS) m49 c62 s.2 M63) (λ(b:((List (List UInt8×List UInt8)))) e a w=>e=(.exit 2)∧∃ c104 M105,Ok u m49 (M105::[(b45,oc 40 [vi r34.2.1.Offset,vi r34.2.1.Line,vi r34.2.1.Column])]::[(b30,oc 40 [vi r19.2.1.Offset,vi r19.2.1.Line,vi r19.2.1.Column])]::[(b15,oc 40 [vi r4.2.1.Offset,vi r4.2.1.Line,vi r4.2.1.Column])]::[(b1,oc 61 [c7,c22,c37])]::S) w∧Env 85 a [(8,vp b1),(15,vb r47.2),(16,c104)]∧OMap kS (oneV pS) m49 c104 b M105) ?_ ?_ N _ a w hL ⟨c52,M53,ok,E.keep [8,15,16,52,53,54],(ir 0),h54⟩
 ·rintro⟨v65,v66⟩ a w r ⟨c68,M69,ok,E,r67,h70⟩ hF
  replace hF:qeQ N r47 v65 v66=some r:=hF
  unfold qeQ at hF
  refine sg<|lw E (qaP rfl rfl) λa E=>wn<|wp_seq<|cg E rfl hF (λc71 hF=>?_) λc71 hF=>?_
  ·refine wp_exit<|qaM ?_
   cases hF
   exact so (⟨rfl,⟨c68,M69,ok,E.keep [8,15,16],h70⟩⟩)
  refine wp_skip<|qaa<|wp_seq<|wp_block<|sg ?_
  obtain⟨x72,e73,hF⟩:=bnd hF
  obtain⟨b74,o75,es76,hl77,rr78,at79,yy80⟩:=ia E 52 54 qhN h51 e73
  obtain⟨rfl,l81,l82⟩:=rr78
  refine lv E ok (yy80 _ _) λa E=>lv E ok (qao (cs:=[vs x72.From,vs x72.To]) qvr rfl rfl (Holds.ro at79)) λa E=>qaL E ok qe1 rfl rfl λb83 a w E ok=>qai E ok 0 rfl rfl rfl qu5 rfl rfl ⟨rfl,rfl,trivial⟩ rfl rfl λw ok=>wn<|qab<|mv E rfl λa E=>fk E ok qtX qax rfl 0 rfl rfl λa E=>fk E ok qun qax rfl 0 rfl rfl λa E=>bd hF λl84 e85 hF=>qd8 (.inl rfl) E ok 1 (qbe Tryz.underlying9) Tryz.underlying66 h70 rfl rfl rfl rfl ⟨rfl,l81⟩ (qb8 l82) e85 rfl λM86 w ok h87=>wpList_nil<|qal<|qaa<|qab<|lw E (qaH rfl rfl (InR.inc r67 (qas h51) c71)) λa E=>mv E rfl λa E=>wpList_nil ?_
  cases hF
  exact qau ⟨c68,M86,(ok.pk 6 [1,2,3,4,5] rfl (by decide)),E.keep [8,15,16,52,53,54],(InR.inc r67 (qas h51) c71),h87⟩
 intro e a w _ hO
 obtain⟨rfl,c88,M89,ok,E,h90⟩:=hO
 refine qbh<|qaa<|sg<|lv E ok (qh1 qj5 rfl rfl (by decide) (by decide)) λa E=>ld E ok qcr 4 rfl rfl rfl λa E=>mv E rfl λa E=>?_
 replace ok:=ok.addnil
 refine bd hF λr92 e93 hF=>qae E qk1 rfl (qmA N _ r19.1 h23 o60 h90 e93 hG ok) rfl rfl ?_
 rintro _ w ⟨m94,c95,rfl,hle,ok,h96⟩
 have le_m0:=le_m0.trans hle
 have h8:=(mL qah).up hle h8
 have h23:=(mL qah).up hle h23
 have h38:=(mL qah).up hle h38
 have h51:=(mL ql9).up hle h51
 have h90:=OMap.up (qbc mS) hle h90
 refine⟨_,rfl,λa E=>?_⟩
 refine mv E rfl λa E=>lw E (qag rfl rfl) λa E=>lw E (qag rfl rfl) λa E=>av E rfl λa E=>aw E rfl λa E=>wp_seq<|sg<|mv E rfl λa E=>lw E (qa9 rfl) λa E=>mv E rfl λa E=>bu E 73 hF (λc97 hF E=>?_) λc97 hF E=>?_
 ·refine lsq E λa E=>pt E rfl rfl λa E=>wn<|c_if E rfl (λ_=>?_) (λh=>by cases h)
  refine sg<|av E rfl λa E=>aw E rfl λa E=>wp_ret<|qak ?_
  exact fin hF ⟨(ok.drop.drop.drop.drop.drop.drop).down hb0 le_m0,E.d,⟨rv_t E rfl,rv_t E rfl,trivial⟩,(show([]:List UInt8).length≤LIMS by decide),(ir 8)⟩
 refine mv E rfl λa E=>lw E (qa9 rfl) λa E=>pf E rfl rfl λa E=>wn<|cf E rfl hF (λc98 hF=>?_) λc98 hF=>?_
 ·refine sg<|av E rfl λa E=>aw E rfl λa E=>wp_ret<|qak ?_
  exact fin hF ⟨(ok.drop.drop.drop.drop.drop.drop).down hb0 le_m0,E.d,⟨rv_t E rfl,rv_t E rfl,trivial⟩,(show([]:List UInt8).length≤LIMS by decide),(ir 8)⟩
 refine wp_skip<|qaa<|sg<|mv E rfl λa E=>bd hF λr99 e100 hF=>qae E qwd rfl (qnd N _ r92.1 h96 e100 hG ok) rfl rfl ?_
 rintro _ w ⟨⟨rfl,ok⟩,l101,r102⟩
 refine⟨_,rfl,λa E=>?_⟩
 refine mv E rfl λa E=>lw E (qag rfl rfl) λa E=>lw E (qag rfl rfl) λa E=>av E rfl λa E=>aw E rfl λa E=>wp_seq<|sg<|mv E rfl λa E=>lw E (qbg rfl rfl) λa E=>wn<|cf E rfl hF (λc103 hF=>?_) λc103 hF=>?_
 ·refine sg<|av E rfl λa E=>aw E rfl λa E=>wp_ret<|qak ?_
  exact fin hF ⟨(ok.drop.drop.drop.drop.drop.drop).down hb0 le_m0,E.d,⟨rv_t E rfl,rv_t E rfl,trivial⟩,(show([]:List UInt8).length≤LIMS by decide),(ir 6)⟩
 refine wp_skip<|qaa<|sg<|mv E rfl λa E=>av E rfl λa E=>av E rfl λa E=>wn<|wp_ret ?_
 exact fin hF ⟨(ok.drop.drop.drop.drop.drop.drop).down hb0 le_m0,E.d,⟨rv_t E rfl,rv_t E rfl,trivial⟩,l101,(ir 0)⟩
end Go.Proofs.YtkhjeeakflefjaaGreatDoor
namespace Go.Proofs.YtkhjeeakflefjaaGreatDoor
open Go.X
structure Segment2 where
 source:List UInt8
 target:List UInt8
 words:List (List UInt8)
structure Memory where
 segments:List (Segment2)
 byWord:List (List UInt8×List (Int))
structure Match where
 Index:Int
 Similar:Int
 Source:List UInt8
 Target:List UInt8
def qhf(_N:Nat):Option Memory:=
 some (Memory.mk ([]) ([]:List (List UInt8×List (Int))))
def qgh(_N:Nat)(words_0:List (List UInt8)):Option (List (List UInt8)):=
 bif ((words_0.length:Int)==0) then
  some ([[]]:List (List UInt8))
 else
  (qlF words_0).bind λl7=>
  (qlL l7).bind λl12=>
  some (Lib.compact l12)
def qc7(_N:Nat)(source_1:List UInt8)(target_2:List UInt8)(x0:Memory)(x_26:Int):Option (Int⊕((Unit⊕(Int×Memory)))):=
 bif (decide (x_26<(x0.segments.length:Int))) then
  (idx x0.segments x_26).bind λx29=>
  bif (x29.source==source_1) then
   bif (x29.target==target_2) then
    some (.inr (.inr (9,x0)))
   else
    some (.inl (x_26+1))
  else
   some (.inl (x_26+1))
 else
  some (.inr (.inl ()))
def qc9(_N:Nat)(r46:(List (List UInt8)))(x_67:Int)(x_68:Memory):Option ((Int×Memory)⊕Memory):=
 bif (decide (x_67<(r46.length:Int))) then
  (idx r46 x_67).bind λx77=>
  (show Option Memory from
   (app ((mget x_68.byWord x77).getD []) ([(x_68.segments.length:Int)]:List (Int))).bind λl106=>
   (mset x_68.byWord x77 l106).bind λl111=>
   some (Memory.mk x_68.segments l111)).bind λo87=>
  some (.inl ((x_67+1),o87))
 else
  some (.inr x_68)
def qei(N:Nat)(source_1:List UInt8)(target_2:List UInt8)(x0:Memory):Option (Int×Memory):=
 (qep N source_1).bind λr13=>
 (show Option Bool from
  bif (decide ((source_1.length:Int)>4000)) then
   some true
  else
   bif (decide ((target_2.length:Int)>4000)) then
    some true
   else
    bif (decide ((r13.length:Int)>400)) then
     some true
    else
     some (decide ((x0.segments.length:Int)≥2000))).bind λo18=>
 bif o18 then
  some (6,x0)
 else
  (iter (λs=>qc7 N source_1 target_2 x0 s) N 0).bind λo24=>
  Sum.elim (λ_o24=>
   (qgh N r13).bind λr46=>
   (iter (λs=>qc9 N r46 s.1 s.2) N (0,x0)).bind λo59=>
   (app o59.segments ([(Segment2.mk source_1 target_2 r13)]:List (Segment2))).bind λl164=>
   some (0,(Memory.mk l164 o59.byWord)))
  (λo24=>
   some o24) o24
def qfL(_N:Nat)(x0:Memory):Option Int:=
 some (x0.segments.length:Int)
def qey(_N:Nat)(x0:Memory)(out_26:List (Int))(x_27:Int):Option (((List (Int))×Int)⊕(((List (Int))))):=
 bif (decide (x_27<(x0.segments.length:Int))) then
  (app out_26 ([x_27]:List (Int))).bind λl36=>
  some (.inl (l36,(x_27+1)))
 else
  some (.inr out_26)
def qcw(_N:Nat)(r49:(List (List UInt8)))(out_78:List (Int))(x_79:Int)(x_80:Memory):Option (((List (Int))×Int×Memory)⊕((Memory×(List (Int))))):=
 bif (decide (x_79<(r49.length:Int))) then
  (idx r49 x_79).bind λx92=>
  (app out_78 ((mget x_80.byWord x92).getD [])).bind λl111=>
  some (.inl (l111,(x_79+1),x_80))
 else
  some (.inr (x_80,out_78))
def qdz(N:Nat)(words_1:List (List UInt8))(least_2:Int)(x0:Memory):Option ((List (Int))×Memory):=
 bif (decide (least_2≤0)) then
  (iter (λs=>qey N x0 s.1 s.2) N ([],0)).bind λo21=>
  some (o21,x0)
 else
  (qgh N words_1).bind λr49=>
  (iter (λs=>qcw N r49 s.1 s.2.1 s.2.2) N ([],0,x0)).bind λo67=>
  (qlw o67.2).bind λl127=>
  some ((Lib.compact l127),o67.1)
def qcu(_N:Nat)(a_0:Match)(b_1:Match):Option Int:=
 some (IntKind.wrap .i64 (b_1.Similar-a_0.Similar))
def qaV(N:Nat)(a_1:Int)(j_25:Int)(x_26:List (Match)):Option ((Int×(List (Match)))⊕(((List (Match))))):=
 (show Option Bool from
  bif (decide (j_25>a_1)) then
   (idx x_26 j_25).bind λx32=>
   (idx x_26 (j_25-1)).bind λx46=>
   (qcu N x32 x46).bind λr60=>
   some (decide (r60<0))
  else
   some false).bind λo30=>
 bif o30 then
  (show Option ((List (Match))) from
   (idx x_26 (IntKind.wrap .i64 (j_25-1))).bind λx92=>
   (idx x_26 j_25).bind λx106=>
   (idx x_26 j_25).bind λ_x120=>
   (setI x_26 j_25 x92).bind λl126=>
   (idx l126 (IntKind.wrap .i64 (j_25-1))).bind λ_x130=>
   (setI l126 (IntKind.wrap .i64 (j_25-1)) x106).bind λl136=>
   some l136).bind λo89=>
  some (.inl ((IntKind.wrap .i64 (j_25-1)),o89))
 else
  some (.inr x_26)
def qaG(N:Nat)(a_1:Int)(b_2:Int)(i_11:Int)(x_12:List (Match)):Option ((Int×(List (Match)))⊕(((List (Match))))):=
 bif (decide (i_11<b_2)) then
  (iter (λs=>qaV N a_1 s.1 s.2) N (i_11,x_12)).bind λo21=>
  some (.inl ((i_11+1),o21))
 else
  some (.inr x_12)
def qaK(N:Nat)(a_1:Int)(b_2:Int)(x0:List (Match)):Option (List (Match)):=
 (iter (λs=>qaG N a_1 b_2 s.1 s.2) N ((IntKind.wrap .i64 (a_1+1)),x0)).bind λo7=>
 some o7
def qba(_N:Nat)(a_1:Int)(b_2:Int)(n_3:Int)(i_11:Int)(x_12:List (Match)):Option ((Int×(List (Match)))⊕(((List (Match))))):=
 bif (decide (i_11<n_3)) then
  (show Option ((List (Match))) from
   (idx x_12 (IntKind.wrap .i64 (b_2+i_11))).bind λx20=>
   (idx x_12 (IntKind.wrap .i64 (a_1+i_11))).bind λx34=>
   (idx x_12 (IntKind.wrap .i64 (a_1+i_11))).bind λ_x48=>
   (setI x_12 (IntKind.wrap .i64 (a_1+i_11)) x20).bind λl54=>
   (idx l54 (IntKind.wrap .i64 (b_2+i_11))).bind λ_x58=>
   (setI l54 (IntKind.wrap .i64 (b_2+i_11)) x34).bind λl64=>
   some l64).bind λo17=>
  some (.inl ((i_11+1),o17))
 else
  some (.inr x_12)
def qbq(N:Nat)(a_1:Int)(b_2:Int)(n_3:Int)(x0:List (Match)):Option (List (Match)):=
 (iter (λs=>qba N a_1 b_2 n_3 s.1 s.2) N (0,x0)).bind λo7=>
 some o7
def qaQ(N:Nat)(m_2:Int)(i_15:Int)(j_16:Int)(x_17:List (Match)):Option ((Int×Int×(List (Match)))⊕(((List (Match))×Int))):=
 bif (i_15 != j_16) then
  bif (decide (i_15>j_16)) then
   (qbq N (IntKind.wrap .i64 (m_2-i_15)) m_2 j_16 x_17).bind λr25=>
   some (.inl ((IntKind.wrap .i64 (i_15-j_16)),j_16,r25))
  else
   (qbq N (IntKind.wrap .i64 (m_2-i_15)) (IntKind.wrap .i64 ((IntKind.wrap .i64 (m_2+j_16))-i_15)) i_15 x_17).bind λr30=>
   some (.inl (i_15,(IntKind.wrap .i64 (j_16-i_15)),r30))
 else
  some (.inr (x_17,i_15))
def qb3(N:Nat)(a_1:Int)(m_2:Int)(b_3:Int)(x0:List (Match)):Option (List (Match)):=
 (iter (λs=>qaQ N m_2 s.1 s.2.1 s.2.2) N ((IntKind.wrap .i64 (m_2-a_1)),(IntKind.wrap .i64 (b_3-m_2)),x0)).bind λo9=>
 (qbq N (IntKind.wrap .i64 (m_2-o9.2)) m_2 o9.2 o9.1).bind λr39=>
 some r39
def qaZ(rQ0:Int→Int→Int→List (Match)→Option (List (Match)))(N:Nat)(a_1:Int)(x0:List (Match))(i_9:Int)(j_10:Int):Option ((Int×Int)⊕Int):=
 bif (decide (i_9<j_10)) then
  (ishr .u64 (IntKind.wrap .u64 (IntKind.wrap .i64 (i_9+j_10))) 1).bind λq14=>
  (show Option Bool from
   (idx x0 (IntKind.wrap .i64 q14)).bind λx17=>
   (idx x0 a_1).bind λx31=>
   (qcu N x17 x31).bind λr45=>
   some (decide (r45<0))).bind λo16=>
  bif o16 then
   some (.inl ((IntKind.wrap .i64 ((IntKind.wrap .i64 q14)+1)),j_10))
  else
   some (.inl (i_9,(IntKind.wrap .i64 q14)))
 else
  some (.inr i_9)
def qa0(rQ0:Int→Int→Int→List (Match)→Option (List (Match)))(_N:Nat)(o6:Int)(k_83:Int)(x_84:List (Match)):Option ((Int×(List (Match)))⊕(((List (Match))))):=
 bif (decide (k_83<(IntKind.wrap .i64 (o6-1)))) then
  (show Option ((List (Match))) from
   (idx x_84 (k_83+1)).bind λx92=>
   (idx x_84 k_83).bind λx106=>
   (idx x_84 k_83).bind λ_x120=>
   (setI x_84 k_83 x92).bind λl126=>
   (idx l126 (k_83+1)).bind λ_x130=>
   (setI l126 (k_83+1) x106).bind λl136=>
   some l136).bind λo89=>
  some (.inl ((k_83+1),o89))
 else
  some (.inr x_84)
def qaW(rQ0:Int→Int→Int→List (Match)→Option (List (Match)))(N:Nat)(m_2:Int)(x0:List (Match))(i_189:Int)(j_190:Int):Option ((Int×Int)⊕Int):=
 bif (decide (i_189<j_190)) then
  (ishr .u64 (IntKind.wrap .u64 (IntKind.wrap .i64 (i_189+j_190))) 1).bind λq194=>
  (show Option Bool from
   (idx x0 m_2).bind λx197=>
   (idx x0 (IntKind.wrap .i64 q194)).bind λx211=>
   (qcu N x197 x211).bind λr225=>
   some (!(decide (r225<0)))).bind λo196=>
  bif o196 then
   some (.inl ((IntKind.wrap .i64 ((IntKind.wrap .i64 q194)+1)),j_190))
  else
   some (.inl (i_189,(IntKind.wrap .i64 q194)))
 else
  some (.inr i_189)
def qaX(rQ0:Int→Int→Int→List (Match)→Option (List (Match)))(_N:Nat)(o186:Int)(k_263:Int)(x_264:List (Match)):Option ((Int×(List (Match)))⊕(((List (Match))))):=
 bif (decide (k_263>o186)) then
  (show Option ((List (Match))) from
   (idx x_264 (k_263-1)).bind λx272=>
   (idx x_264 k_263).bind λx286=>
   (idx x_264 k_263).bind λ_x300=>
   (setI x_264 k_263 x272).bind λl306=>
   (idx l306 (k_263-1)).bind λ_x310=>
   (setI l306 (k_263-1) x286).bind λl316=>
   some l316).bind λo269=>
  some (.inl ((k_263-1),o269))
 else
  some (.inr x_264)
def qaY(rQ0:Int→Int→Int→List (Match)→Option (List (Match)))(N:Nat)(m_2:Int)(x0:List (Match))(q363:Int)(start_376:Int)(r_377:Int):Option ((Int×Int)⊕Int):=
 bif (decide (start_376<r_377)) then
  (ishr .u64 (IntKind.wrap .u64 (IntKind.wrap .i64 (start_376+r_377))) 1).bind λq381=>
  (show Option Bool from
   (idx x0 (IntKind.wrap .i64 ((IntKind.wrap .i64 ((IntKind.wrap .i64 ((IntKind.wrap .i64 q363)+m_2))-1))-(IntKind.wrap .i64 q381)))).bind λx384=>
   (idx x0 (IntKind.wrap .i64 q381)).bind λx398=>
   (qcu N x384 x398).bind λr412=>
   some (!(decide (r412<0)))).bind λo383=>
  bif o383 then
   some (.inl ((IntKind.wrap .i64 ((IntKind.wrap .i64 q381)+1)),r_377))
  else
   some (.inl (start_376,(IntKind.wrap .i64 q381)))
 else
  some (.inr start_376)
def qbJ(rQ0:Int→Int→Int→List (Match)→Option (List (Match)))(N:Nat)(a_1:Int)(m_2:Int)(b_3:Int)(x0:List (Match)):Option (List (Match)):=
 bif ((IntKind.wrap .i64 (m_2-a_1))==1) then
  (iter (λs=>qaZ rQ0 N a_1 x0 s.1 s.2) N (m_2,b_3)).bind λo6=>
  (iter (λs=>qa0 rQ0 N o6 s.1 s.2) N (a_1,x0)).bind λo79=>
  some o79
 else
  bif ((IntKind.wrap .i64 (b_3-m_2))==1) then
   (iter (λs=>qaW rQ0 N m_2 x0 s.1 s.2) N (a_1,m_2)).bind λo186=>
   (iter (λs=>qaX rQ0 N o186 s.1 s.2) N (m_2,x0)).bind λo259=>
   some o259
  else
   (ishr .u64 (IntKind.wrap .u64 (IntKind.wrap .i64 (a_1+b_3))) 1).bind λq363=>
   (show Option (Int×Int) from
    bif (decide (m_2>(IntKind.wrap .i64 q363))) then
     some ((IntKind.wrap .i64 ((IntKind.wrap .i64 ((IntKind.wrap .i64 q363)+m_2))-b_3)),(IntKind.wrap .i64 q363))
    else
     some (a_1,m_2)).bind λo365=>
   (iter (λs=>qaY rQ0 N m_2 x0 q363 s.1 s.2) N (o365.1,o365.2)).bind λo373=>
   bif (decide (o373<m_2)) then
    (show Option ((List (Match))) from
     bif (decide (m_2<(IntKind.wrap .i64 ((IntKind.wrap .i64 ((IntKind.wrap .i64 q363)+m_2))-o373)))) then
      (qb3 N o373 m_2 (IntKind.wrap .i64 ((IntKind.wrap .i64 ((IntKind.wrap .i64 q363)+m_2))-o373)) x0).bind λr448=>
      some r448
     else
      some x0).bind λo443=>
    bif (decide (a_1<o373)) then
     (show Option ((List (Match))) from
      bif (decide (o373<(IntKind.wrap .i64 q363))) then
       (rQ0 a_1 o373 (IntKind.wrap .i64 q363) o443).bind λr462=>
       some r462
      else
       some o443).bind λo457=>
     bif (decide ((IntKind.wrap .i64 q363)<(IntKind.wrap .i64 ((IntKind.wrap .i64 ((IntKind.wrap .i64 q363)+m_2))-o373)))) then
      bif (decide ((IntKind.wrap .i64 ((IntKind.wrap .i64 ((IntKind.wrap .i64 q363)+m_2))-o373))<b_3)) then
       (rQ0 (IntKind.wrap .i64 q363) (IntKind.wrap .i64 ((IntKind.wrap .i64 ((IntKind.wrap .i64 q363)+m_2))-o373)) b_3 o457).bind λr472=>
       some r472
      else
       some o457
     else
      some o457
    else
     bif (decide ((IntKind.wrap .i64 q363)<(IntKind.wrap .i64 ((IntKind.wrap .i64 ((IntKind.wrap .i64 q363)+m_2))-o373)))) then
      bif (decide ((IntKind.wrap .i64 ((IntKind.wrap .i64 ((IntKind.wrap .i64 q363)+m_2))-o373))<b_3)) then
       (rQ0 (IntKind.wrap .i64 q363) (IntKind.wrap .i64 ((IntKind.wrap .i64 ((IntKind.wrap .i64 q363)+m_2))-o373)) b_3 o443).bind λr479=>
       some r479
      else
       some o443
     else
      some o443
   else
    bif (decide (a_1<o373)) then
     (show Option ((List (Match))) from
      bif (decide (o373<(IntKind.wrap .i64 q363))) then
       (rQ0 a_1 o373 (IntKind.wrap .i64 q363) x0).bind λr490=>
       some r490
      else
       some x0).bind λo485=>
     bif (decide ((IntKind.wrap .i64 q363)<(IntKind.wrap .i64 ((IntKind.wrap .i64 ((IntKind.wrap .i64 q363)+m_2))-o373)))) then
      bif (decide ((IntKind.wrap .i64 ((IntKind.wrap .i64 ((IntKind.wrap .i64 q363)+m_2))-o373))<b_3)) then
       (rQ0 (IntKind.wrap .i64 q363) (IntKind.wrap .i64 ((IntKind.wrap .i64 ((IntKind.wrap .i64 q363)+m_2))-o373)) b_3 o485).bind λr500=>
       some r500
      else
       some o485
     else
      some o485
    else
     bif (decide ((IntKind.wrap .i64 q363)<(IntKind.wrap .i64 ((IntKind.wrap .i64 ((IntKind.wrap .i64 q363)+m_2))-o373)))) then
      bif (decide ((IntKind.wrap .i64 ((IntKind.wrap .i64 ((IntKind.wrap .i64 q363)+m_2))-o373))<b_3)) then
       (rQ0 (IntKind.wrap .i64 q363) (IntKind.wrap .i64 ((IntKind.wrap .i64 ((IntKind.wrap .i64 q363)+m_2))-o373)) b_3 x0).bind λr507=>
       some r507
      else
       some x0
     else
      some x0
def qd0:Nat→(Int→Int→Int→List (Match)→Option (List (Match)))
 | 0=>(λ_ _ _ _=>none)
 | N+1=>(qbJ (qd0 N) N)
def qap(N:Nat):Int→Int→Int→List (Match)→Option (List (Match)):=(qd0 N)
end Go.Proofs.YtkhjeeakflefjaaGreatDoor
namespace Go.Proofs.YtkhjeeakflefjaaGreatDoor
open Go.X
variable {u:World} {m0:Mem} {S:Segs} {w:World}
set_option maxHeartbeats 4000000
set_option maxRecDepth 100000
def qbM:Rp Segment2:=λm cs x=>∃ c2,cs=[.string (bs x.source),.string (bs x.target),c2]∧x.source.length≤LIMS∧x.target.length≤LIMS∧(pL 1 pS) m [c2] x.words
theorem qaT:Mono qbM:=⟨λhm h=>by
 obtain⟨c2,e,h0,h1,h2⟩:=h
 exact⟨c2,e,h0,h1,(mL mS).up hm h2⟩,λh=>by
 obtain⟨c2,rfl,h0,h1,h2⟩:=h
 exact⟨rfl,rfl,((mL mS).one h2).1,trivial⟩⟩
def qa7:Rp Match:=λ_ cs x=>cs=[.int .i64 x.Index,.int .i64 x.Similar,.string (bs x.Source),.string (bs x.Target)]∧InR .i64 x.Index∧InR .i64 x.Similar∧x.Source.length≤LIMS∧x.Target.length≤LIMS
theorem qrD:Mono qa7:=⟨λ_ h=>by
 obtain⟨e,h0,h1,h2,h3⟩:=h
 exact⟨e,h0,h1,h2,h3⟩,λh=>by
 obtain⟨rfl,h0,h1,h2,h3⟩:=h
 exact⟨rfl,rfl,rfl,rfl,trivial⟩⟩
theorem qee:aggB Tryz.prog 33 4=true:=by kernel_rfl
theorem qh2:aggB Tryz.prog 47 2=true:=by kernel_rfl
theorem qr1:aggB Tryz.prog 56 3=true:=by kernel_rfl
theorem qnV:qa2 Tryz.prog 33 1 1=true:=by kernel_rfl
theorem qmd:qa2 Tryz.prog 33 2 2=true:=by kernel_rfl
theorem qlX:qa2 Tryz.prog 33 3 3=true:=by kernel_rfl
theorem qg8:qa2 Tryz.prog 47 0 0=true:=by kernel_rfl
theorem qhd:qa2 Tryz.prog 52 0 0=true:=by kernel_rfl
theorem qnK:qa2 Tryz.prog 52 1 1=true:=by kernel_rfl
theorem qqh:qa2 Tryz.prog 56 0 0=true:=by kernel_rfl
theorem qqB:qa2 Tryz.prog 56 1 1=true:=by kernel_rfl
theorem quE:qa2 Tryz.prog 56 2 2=true:=by kernel_rfl
theorem qoU:goB Tryz.prog 10=true:=by kernel_rfl
theorem qvp:goB Tryz.prog 116=true:=by kernel_rfl
theorem qjE:goB Tryz.prog 12=true:=by kernel_rfl
theorem qtq:goB Tryz.prog 13=true:=by kernel_rfl
theorem qpR:goB Tryz.prog 130=true:=by kernel_rfl
theorem qtv:goB Tryz.prog 14=true:=by kernel_rfl
theorem qvO:goB Tryz.prog 16=true:=by kernel_rfl
theorem qvL:goB Tryz.prog 25=true:=by kernel_rfl
theorem qvX:goB Tryz.prog 26=true:=by kernel_rfl
theorem qwc:goB Tryz.prog 27=true:=by kernel_rfl
theorem qv6:goB Tryz.prog 29=true:=by kernel_rfl
theorem qvZ:goB Tryz.prog 30=true:=by kernel_rfl
theorem qv4:goB Tryz.prog 31=true:=by kernel_rfl
theorem qoL:goB Tryz.prog 32=true:=by kernel_rfl
theorem go_4:goB Tryz.prog 4=true:=by kernel_rfl
theorem qvD:goB Tryz.prog 47=true:=by kernel_rfl
theorem qvF:goB Tryz.prog 48=true:=by kernel_rfl
theorem go_5:goB Tryz.prog 5=true:=by kernel_rfl
theorem qvU:goB Tryz.prog 50=true:=by kernel_rfl
theorem go_6:goB Tryz.prog 6=true:=by kernel_rfl
theorem go_7:goB Tryz.prog 7=true:=by kernel_rfl
theorem go_8:goB Tryz.prog 8=true:=by kernel_rfl
theorem qtK:goB Tryz.prog 82=true:=by kernel_rfl
theorem qjs:goB Tryz.prog 83=true:=by kernel_rfl
theorem go_9:goB Tryz.prog 9=true:=by kernel_rfl
theorem qgp:∃ i,Tryz.prog.info? 33=some i∧i.size=4:=⟨_,rfl,by kernel_rfl⟩
theorem qhZ:∃ i,Tryz.prog.info? 47=some i∧i.size=2:=⟨_,rfl,by kernel_rfl⟩
theorem qvu:∃ i,Tryz.prog.info? 50=some i∧i.size=1:=⟨_,rfl,by kernel_rfl⟩
theorem qry:∃ i,Tryz.prog.info? 56=some i∧i.size=3:=⟨_,rfl,by kernel_rfl⟩
theorem qpk:oneB Tryz.prog 49=true:=by kernel_rfl
theorem qiT:oneB Tryz.prog 50=true:=by kernel_rfl
theorem quV:oneB Tryz.prog 53=true:=by kernel_rfl
theorem qoo:qen Tryz.prog 33=some [(0,1),(1,1),(2,1),(3,1)]:=by kernel_rfl
theorem qrV:qen Tryz.prog 52=some [(0,1),(1,1)]:=by kernel_rfl
theorem qsc:qen Tryz.prog 56=some [(0,1),(1,1),(2,1)]:=by kernel_rfl
theorem qiC:SlT Tryz.prog 50 56 3:=SlT.of (by kernel_rfl)
theorem qds:SlT Tryz.prog 59 33 4:=SlT.of (by kernel_rfl)
theorem qmy:qjt Tryz.prog 58=some (Value.slice none 0 0):=by kernel_rfl
theorem qiL:qcp Tryz.prog 33=some [vi 0,vi 0,(vs ([])),(vs ([]))]:=by kernel_rfl
theorem qtV:qcp Tryz.prog 52=some [(Value.slice none 0 0),(Value.map none)]:=by kernel_rfl
theorem qko:qcp Tryz.prog 56=some [(vs ([])),(vs ([])),(Value.slice none 0 0)]:=by kernel_rfl
def qpU(u:World)(m0:Mem)(S:Segs)(r:Memory)(a:Act)(w:World):Prop:=
 ∃ m1 b0 c1 M2 c4 M5,m0.le m1∧Ok u m1 ([(b0,oc 52 [c1,c4])]::M2::M5::S) w∧a.defers=[]∧RVs Tryz.prog a w [.t 0 (.pointer (some ⟨b0,0,none⟩))]∧ORow 56 3 qbM m1 c1 r.segments M2∧NMap 3 m1 c4 r.byWord M5
theorem qlV(N:Nat){r:Memory}(hF:qhf N  = some r)(hG:Glob u)(ok:Ok u m0 (S) w) :
  Calls Tryz.prog 4 [].toArray w λe w'=>∃ m1 b0 c1 M2 c4 M5,e=.returned (.pointer (some ⟨b0,0,none⟩))∧m0.le m1∧Ok u m1 ([(b0,oc 52 [c1,c4])]::M2::M5::S) w'∧ORow 56 3 qbM m1 c1 r.segments M2∧NMap 3 m1 c4 r.byWord M5:=by
 have le_m0:=Mem.le.refl m0
 unfold qhf at hF
 refine en (qpU u m0 S) r Tryz.func4 rfl rfl rfl (by rintro a w ⟨m1,b0,c1,M2,c4,M5,hle,ok,hd,hrv,h0,h1⟩;exact qbf [.t 0 (.pointer (some ⟨b0,0,none⟩))] hd rfl hrv ⟨m1,b0,c1,M2,c4,M5,rfl,hle,ok,h0,h1⟩) λfin a E=>sg<|aw E rfl λa E=>sg<|qq1 3 E ok rfl rfl λc7 M8 a w E ok h9=>lw E (qbY (ps:=[(1,.tmp 1)]) (qs:=[(1,[c7])]) (cs:=[(Value.slice none 0 0),c7]) qtV qrV rfl ⟨rfl,(NMap.cells h9),rfl,trivial⟩ rfl) λa E=>qgl E ok rfl rfl rfl λb10 a w E ok=>aw E rfl λa E=>wp_ret ?_
 obtain⟨M11,ok,h12⟩:=qd9 (e:=56) (k:=3) (R:=qbM) ok
 exact fin hF ⟨m0,b10,(Value.slice none 0 0),M11,c7,M8,le_m0,(ok.pk 3 [1,0,2] rfl (by decide)),E.d,rz E rfl,h12,h9⟩
def qoJ(u:World)(m0:Mem)(S:Segs)(r:(List (List UInt8)))(a:Act)(w:World):Prop:=
 ∃ m1 v0,m0.le m1∧Ok u m1 S w∧a.defers=[]∧RVs Tryz.prog a w [.t 2 v0]∧(pL 1 pS) m1 [v0] r
theorem qk9(N:Nat)(vwords_0:Value)(words_0:List (List UInt8))(hwords_0:(pL 1 pS) m0 [vwords_0] words_0){r:(List (List UInt8))}(hF:qgh N words_0=some r)(hG:Glob u)(ok:Ok u m0 S w) :
  Calls Tryz.prog 14 [vwords_0].toArray w λe w'=>∃ m1 v0,e=.returned v0∧m0.le m1∧Ok u m1 S w'∧(pL 1 pS) m1 [v0] r:=by
 have le_m0:=Mem.le.refl m0
 unfold qgh at hF
 refine en (qoJ u m0 S) r Tryz.func14 rfl rfl rfl (λ_ _ h=>rc h λ_=>rfl) λfin a E=>sg<|aw E rfl λa E=>wp_seq<|sg<|mv E rfl λa E=>lv E ok (qa8 qce hwords_0 rfl) λa E=>lw E (qaz rfl rfl) λa E=>wn<|cf E rfl hF (λc1 hF=>?_) λc1 hF=>?_
 ·refine sg<|qbF (R:=pS) (xo:=[.const (vs ([]))]) (xs:=([[]]:List (List UInt8))) E ok qce qex rfl ⟨⟨_,rfl,rfl,(qb8 (show([]:List UInt8).length≤LIMS by decide))⟩,trivial⟩ rfl rfl rfl rfl λc2 M3 a w E ok h4=>aw E rfl λa E=>wp_ret<|qak ?_
  obtain⟨m5,hle,ok,hfz⟩:=(ok.frs 0 rfl).freeze
  have h6:=ORow.froz mS h4 hle hfz (by decide)
  have le_m0:=le_m0.trans hle
  have hwords_0:=(mL mS).up hle hwords_0
  exact fin hF ⟨m5,c2,le_m0,ok,E.d,rz E rfl,h6⟩
 refine wp_skip<|qaa<|sg<|mv E rfl λa E=>bd hF λl7 e8 hF=>qae E qvL rfl (qqZ Tryz.laysNm216 e8 hwords_0 ok) rfl rfl ?_
 rintro _ w ⟨c9,M10,rfl,h11,ok⟩
 refine⟨_,rfl,λa E=>?_⟩
 refine aw E rfl λa E=>sg<|mv E rfl λa E=>bd hF λl12 e13 hF=>qae E qvX rfl (qsh Tryz.lays190 0 rfl e13 h11 ok) rfl rfl ?_
 rintro _ w ⟨rfl,M14,h15,ok⟩
 refine⟨_,rfl,λa E=>?_⟩
 refine wn<|sg<|mv E rfl λa E=>qae E qwc rfl (qpp Tryz.lays194 0 rfl h15 ok) rfl rfl ?_
 rintro _ w ⟨c16,M17,rfl,h18,ok⟩
 refine⟨_,rfl,λa E=>?_⟩
 refine aw E rfl λa E=>wp_ret ?_
 obtain⟨m19,hle,ok,hfz⟩:=(ok.frs 0 rfl).freeze
 have h20:=ORow.froz mS h18 hle hfz (by decide)
 have le_m0:=le_m0.trans hle
 have hwords_0:=(mL mS).up hle hwords_0
 exact fin hF ⟨m19,c16,le_m0,ok,E.d,rz E rfl,h20⟩
def qhy(u:World)(m0:Mem)(S:Segs)(pb0:Nat)(x0:Memory)(c1:Value)(M2:List (Nat×Obj))(c4:Value)(M5:List (Nat×Obj))(r:Int×Memory)(a:Act)(w:World):Prop:=
 ∃ m1 c7 M8 c10 M11,m0.le m1∧Ok u m1 ([(pb0,oc 52 [c7,c10])]::M8::M11::S) w∧a.defers=[]∧RVs Tryz.prog a w [.t 6 (.int .i64 r.1)]∧InR .i64 r.1∧ORow 56 3 qbM m1 c7 r.2.segments M8∧NMap 3 m1 c10 r.2.byWord M11
theorem qhx(N:Nat)(source_1:List UInt8)(lsource_1:source_1.length≤LIMS)(target_2:List UInt8)(ltarget_2:target_2.length≤LIMS){pb0:Nat}{c1:Value}{M2:List (Nat×Obj)}{c4:Value}{M5:List (Nat×Obj)}(x0:Memory)(h3:ORow 56 3 qbM m0 c1 x0.segments M2)(h6:NMap 3 m0 c4 x0.byWord M5){r:Int×Memory}(hF:qei N source_1 target_2 x0=some r)(hG:Glob u)(ok:Ok u m0 ([(pb0,oc 52 [c1,c4])]::M2::M5::S) w) :
  Calls Tryz.prog 5 [vp pb0,vs source_1,vs target_2].toArray w λe w'=>∃ m1 c7 M8 c10 M11,e=.returned (.int .i64 r.1)∧m0.le m1∧Ok u m1 ([(pb0,oc 52 [c7,c10])]::M8::M11::S) w'∧InR .i64 r.1∧ORow 56 3 qbM m1 c7 r.2.segments M8∧NMap 3 m1 c10 r.2.byWord M11:=by
 have le_m0:=Mem.le.refl m0
 unfold qei at hF
 refine en (qhy u m0 S pb0 x0 c1 M2 c4 M5) r Tryz.func5 rfl rfl rfl (by rintro a w ⟨m1,c7,M8,c10,M11,hle,ok,hd,hrv,h0,h1,h2⟩;exact qbf [.t 6 (.int .i64 r.1)] hd rfl hrv ⟨m1,c7,M8,c10,M11,rfl,hle,ok,h0,h1,h2⟩) λfin a E=>sg<|aw E rfl λa E=>wp_seq<|sg<|mv E rfl λa E=>lv E ok (qhP Tryz.underlying23 rfl rfl) λa E=>wn<|c_if E rfl (λh=>by cases h) (λ_=>?_)
 refine wp_skip<|qaa<|sg<|mv E rfl λa E=>bd hF λr13 e14 hF=>qae E qtq rfl (qi9 N source_1 lsource_1 e14 hG ok) rfl rfl ?_
 rintro _ w ⟨m15,c16,rfl,hle,ok,h17⟩
 have le_m0:=le_m0.trans hle
 have h3:=ORow.up qaT hle h3
 have h6:=NMap.up hle h6
 refine⟨_,rfl,λa E=>?_⟩
 refine aw E rfl λa E=>wp_seq<|wp_seq<|bd hF λo18 hJ hF=>qaO (Q':=λe a w=>e=.normal∧Ok u m15 ([(pb0,oc 52 [c1,c4])]::M2::M5::S) w∧Env 96 a [(0,vp pb0),(1,vs source_1),(2,vs target_2),(7,c16),(36,vb o18)]) ?_ ?_
 ·as_aux_lemma=>
   have hF:=hJ
   refine qab<|mv E rfl λa E=>lw E (qbp Tryz.underlying9 rfl) λa E=>lw E (qcv rfl rfl) λa E=>mv E rfl λa E=>bu E 19 hF (λc19 hF E=>?_) λc19 hF E=>?_
   ·refine lsq E λa E=>ls E λa E=>pt E rfl rfl λa E=>mv E rfl λa E=>lsq E λa E=>ls E λa E=>pt E rfl rfl λa E=>mv E rfl λa E=>lsz E λa E=>lsq E λa E=>?_
    refine pt E rfl rfl λa E=>wpList_nil ?_
    cases hF
    exact⟨rfl,⟨ok,E.keep [0,1,2,7,36]⟩⟩
   refine mv E rfl λa E=>lw E (qbp Tryz.underlying9 rfl) λa E=>lw E (qcv rfl rfl) λa E=>pf E rfl rfl λa E=>mv E rfl λa E=>bu E 24 hF (λc20 hF E=>?_) λc20 hF E=>?_
   ·refine lsq E λa E=>ls E λa E=>pt E rfl rfl λa E=>mv E rfl λa E=>lsz E λa E=>lsq E λa E=>pt E rfl rfl λa E=>wpList_nil ?_
    cases hF
    exact⟨rfl,⟨ok,E.keep [0,1,2,7,36]⟩⟩
   refine mv E rfl λa E=>lv E ok (qa8 qce h17 rfl) λa E=>lw E (qcv rfl rfl) λa E=>pf E rfl rfl λa E=>mv E rfl λa E=>bu E 29 hF (λc21 hF E=>?_) λc21 hF E=>?_
   ·refine lsz E λa E=>lsq E λa E=>pt E rfl rfl λa E=>wpList_nil ?_
    cases hF
    exact⟨rfl,⟨ok,E.keep [0,1,2,7,36]⟩⟩
   refine mv E rfl λa E=>lw E (qan rfl) λa E=>fk E ok qhd qiT rfl 0 rfl rfl λa E=>lv E ok (qeB qiC h3 rfl) λa E=>lw E (qbL rfl rfl) λa E=>pf E rfl rfl λa E=>wpList_nil ?_
   cases hF
   exact⟨rfl,⟨ok,E.keep [0,1,2,7,36]⟩⟩
 intro e a w hO
 obtain⟨rfl,ok,E⟩:=hO
 refine qaa<|cf E rfl hF (λc22 hF=>?_) λc22 hF=>?_
 ·refine sg<|aw E rfl λa E=>wp_ret<|qak ?_
  exact fin hF ⟨m15,c1,M2,c4,M5,le_m0,ok,E.d,rz E rfl,(ir 6),h3,h6⟩
 refine wp_skip<|qaa<|wp_seq<|sg<|mv E rfl λa E=>lw E (qan rfl) λa E=>fv E qhd rfl λa E=>ld E ok qiT 0 rfl rfl rfl λa E=>lv E ok (qeB qiC h3 rfl) λa E=>mv E rfl λa E=>wn<|wp_block<|bd hF λo24 hL hF=>qbb _ (λ(s:Int) a w=>Ok u m15 ([(pb0,oc 52 [c1,c4])]::M2::M5::S) w∧Env 96 a [(0,vp pb0),(1,vs source_1),(2,vs target_2),(7,c16),(40,c1),(41,(vi (x0.segments.length:Int))),(42,vi s)]∧InR .i64 s) (λ(b:(Unit⊕(Int×Memory))) e a w=>(Sum.elim (λb175=>e=(.exit 0)∧Ok u m15 ([(pb0,oc 52 [c1,c4])]::M2::M5::S) w∧Env 96 a [(0,vp pb0),(1,vs source_1),(2,vs target_2),(7,c16)]) (λb176=>e=.ret∧qhy u m0 S pb0 x0 c1 M2 c4 M5 b176 a w)) b) ?_ ?_ N _ a w hL ⟨ok,E.keep [0,1,2,7,40,41,42],(ir 0)⟩
 ·as_aux_lemma=>
   rintro v26 a w r ⟨ok,E,r27⟩ hF
   replace hF:qc7 N source_1 target_2 x0 v26=some r:=hF
   unfold qc7 at hF
   refine sg<|lw E (qaP rfl rfl) λa E=>wn<|wp_seq<|cg E rfl hF (λc28 hF=>?_) λc28 hF=>?_
   ·refine wp_exit<|qaM ?_
    cases hF
    exact so (sl ⟨rfl,⟨ok,E.keep [0,1,2,7]⟩⟩)
   refine wp_skip<|qaa<|wp_seq<|wp_block<|sg ?_
   obtain⟨x29,e30,hF⟩:=bnd hF
   obtain⟨b31,o32,hp33,yy34⟩:=qb2 qiC h3 e30 (P:=Tryz.prog) (X:=.tmp 40) (I:=.tmp 42) (kd:=.i64) (qaD E rfl) (qaD E rfl)
   refine lv E ok (yy34 _ _) λa E=>?_
   obtain⟨es35,hl36,rr37,hh38⟩:=qcF h3 e30 hp33 (by decide)
   obtain⟨c41,rfl,l39,l40,h42⟩:=rr37
   refine lv E ok (qao (cs:=[vs x29.source,vs x29.target,c41]) qr1 rfl rfl (hh38 _ _ _ 1 rfl)) λa E=>qaL E ok qko rfl rfl λb43 a w E ok=>qai E ok 0 rfl rfl rfl qry rfl rfl ⟨rfl,rfl,(qbT h42),trivial⟩ rfl rfl λw ok=>wn<|sg<|fv E qqh rfl λa E=>ld E ok qax 0 rfl rfl rfl λa E=>mv E rfl λa E=>lw E (qb6 rfl rfl) λa E=>mv E rfl λa E=>bw E 50 hF (λc44 hF E=>?_) λc44 hF E=>?_
   ·refine lsz E λa E=>pf E rfl rfl λa E=>wn<|c_if E rfl (λh=>by cases h) (λ_=>?_)
    refine wp_skip<|qal<|qaa<|qab<|lw E (qaH rfl rfl (InR.inc r27 (ORow.InR h3) c28)) λa E=>mv E rfl λa E=>wpList_nil ?_
    cases hF
    exact qau ⟨(ok.pk 4 [1,2,3] rfl (by decide)),E.keep [0,1,2,7,40,41,42],(InR.inc r27 (ORow.InR h3) c28)⟩
   refine fk E ok qqB qax rfl 0 rfl rfl λa E=>mv E rfl λa E=>lw E (qb6 rfl rfl) λa E=>pt E rfl rfl λa E=>wn<|cg E rfl hF (λc45 hF=>?_) λc45 hF=>?_
   ·refine wp_skip<|qal<|qaa<|qab<|lw E (qaH rfl rfl (InR.inc r27 (ORow.InR h3) c28)) λa E=>mv E rfl λa E=>wpList_nil ?_
    cases hF
    exact qau ⟨(ok.pk 4 [1,2,3] rfl (by decide)),E.keep [0,1,2,7,40,41,42],(InR.inc r27 (ORow.InR h3) c28)⟩
   refine sg<|aw E rfl λa E=>wp_ret<|qaA<|qak ?_
   cases hF
   exact so (sr ⟨rfl,⟨m15,c1,M2,c4,M5,le_m0,ok.drop,E.d,rz E rfl,(ir 9),h3,h6⟩⟩)
 intro e a w _ hO
 rcases o24 with o24 | o24
 rotate_left
 ·obtain⟨rfl,hret⟩:=hO
  refine qaA<|qak ?_
  exact fin hF hret
 have hF:=qdI hF
 obtain⟨rfl,ok,E⟩:=hO
 refine qbh<|qaa<|wp_seq<|sg<|mv E rfl λa E=>bd hF λr46 e47 hF=>qae E qtv rfl (qk9 N _ r13 h17 e47 hG ok) rfl rfl ?_
 rintro _ w ⟨m48,c49,rfl,hle,ok,h50⟩
 have le_m0:=le_m0.trans hle
 have h3:=ORow.up qaT hle h3
 have h6:=NMap.up hle h6
 have h17:=(mL mS).up hle h17
 refine⟨_,rfl,λa E=>?_⟩
 refine lv E ok (qa8 qce h50 rfl) λa E=>mv E rfl λa E=>wn<|wp_block<|bd hF λo59 hL hF=>qbb _ (λ(s:Int×Memory) a w=>∃ c61 M62 c64 M65,Ok u m48 ([(pb0,oc 52 [c61,c64])]::M62::M65::S) w∧Env 96 a [(0,vp pb0),(1,vs source_1),(2,vs target_2),(7,c16),(58,c49),(59,(vi (r46.length:Int))),(60,vi s.1)]∧InR .i64 s.1∧ORow 56 3 qbM m48 c61 s.2.segments M62∧NMap 3 m48 c64 s.2.byWord M65) (λ(b:Memory) e a w=>e=(.exit 2)∧∃ c169 M170 c172 M173,Ok u m48 ([(pb0,oc 52 [c169,c172])]::M170::M173::S) w∧Env 96 a [(0,vp pb0),(1,vs source_1),(2,vs target_2),(7,c16)]∧ORow 56 3 qbM m48 c169 b.segments M170∧NMap 3 m48 c172 b.byWord M173) ?_ ?_ N _ a w hL ⟨c1,M2,c4,M5,ok,E.keep [0,1,2,7,58,59,60],(ir 0),h3,h6⟩
 rotate_left
 ·intro e a w _ hO
  obtain⟨rfl,c155,M156,c158,M159,ok,E,h157,h160⟩:=hO
  refine qbh<|qaa<|sg<|mz E rfl rfl λa E=>lw E (qan rfl) λa E=>fv E qhd rfl λa E=>ld E ok qiT 0 rfl rfl rfl λa E=>mz E rfl rfl λa E=>mv E rfl λa E=>lw E (qbY (ps:=[(0,.tmp 88),(1,.tmp 89),(2,.tmp 90)]) (qs:=[(0,[vs source_1]),(1,[vs target_2]),(2,[c16])]) (cs:=[vs source_1,vs target_2,c16]) qko qsc rfl ⟨rfl,rfl,rfl,⟨rfl,rfl,rfl,⟨rfl,(qdy h17),rfl,trivial⟩⟩⟩ rfl) λa E=>qbF (R:=qbM) (xo:=[.tmp 91]) (xs:=([(Segment2.mk source_1 target_2 r13)]:List (Segment2))) E ok qiC qko rfl ⟨⟨_,rfl,rfl,⟨_,rfl,lsource_1,ltarget_2,h17⟩⟩,trivial⟩ rfl rfl rfl rfl λc161 M162 a w E ok h163=>bd hF λl164 e165 hF=>qcf (R:=qbM) E ok 2 qaT qiC Tryz.underlying50 rfl h157 (qbD.ofRow h163 0 rfl ok) e165 ⟨_,qko,rfl⟩ rfl rfl rfl rfl λc166 M167 a w E ok h168=>lw E (qan rfl) λa E=>fv E qhd rfl λa E=>qai E ok 1 rfl rfl rfl qvu (ORow.cells h168) rfl ⟨(ORow.one h168),trivial⟩ rfl rfl λw ok=>wn<|sg<|aw E rfl λa E=>wp_ret ?_
  exact fin hF ⟨m48,c166,M167,c158,M159,le_m0,ok.drop,E.d,rz E rfl,(ir 0),h168,h160⟩
 rintro⟨v67,v68⟩ a w r ⟨c70,M71,c73,M74,ok,E,r69,h72,h75⟩ hF
 replace hF:qc9 N r46 v67 v68=some r:=hF
 unfold qc9 at hF
 refine sg<|lw E (qaP rfl rfl) λa E=>wn<|wp_seq<|cg E rfl hF (λc76 hF=>?_) λc76 hF=>?_
 ·refine wp_exit<|qaM ?_
  cases hF
  exact so (⟨rfl,⟨c70,M71,c73,M74,ok,E.keep [0,1,2,7],h72,h75⟩⟩)
 refine wp_skip<|qaa<|wp_seq<|wp_block<|sg ?_
 obtain⟨x77,e78,hF⟩:=bnd hF
 obtain⟨b79,o80,es81,hl82,rr83,at84,yy85⟩:=ia E 58 60 qce h50 e78
 obtain⟨rfl,l86⟩:=rr83
 refine lv E ok (yy85 _ _) λa E=>lv E ok (qaw qax rfl (Holds.ro at84)) λa E=>aw E rfl λa E=>bd hF λo87 hJ hF=>qaO (Q':=λe a w=>e=.normal∧∃ c88 M89 c91 M92,Ok u m48 ([(pb0,oc 52 [c88,c91])]::M89::M92::S) w∧Env 96 a [(0,vp pb0),(1,vs source_1),(2,vs target_2),(7,c16),(58,c49),(59,(vi (r46.length:Int))),(60,vi v67)]∧ORow 56 3 qbM m48 c88 o87.segments M89∧NMap 3 m48 c91 o87.byWord M92) ?_ ?_
 rotate_left
 ·intro e a w hO
  obtain⟨rfl,c149,M150,c152,M153,ok,E,h151,h154⟩:=hO
  refine qal<|qaa<|qab<|lw E (qaH rfl rfl (InR.inc r69 (qas h50) c76)) λa E=>mv E rfl λa E=>wpList_nil ?_
  cases hF
  exact qau ⟨c149,M150,c152,M153,ok,E.keep [0,1,2,7,58,59,60],(InR.inc r69 (qas h50) c76),h151,h154⟩
 have hF:=hJ
 obtain⟨l106,e107,hF⟩:=bnd hF
 obtain⟨l111,e112,hF⟩:=bnd hF
 obtain rfl:=sj hF
 refine qbl [] (Cls u m48 ([(pb0,oc 52 [c70,c73])]::M71::[])) (Cls u m48 ([(pb0,oc 52 [c70,c73])]::M71::[])) (by kernel_rfl) ?_
 intro w hw
 replace ok:=qbA ok hw
 clear hw
 have le_m48:=Mem.le.refl m48
 refine qaq (cl1 (cq le_m48 ok [0,1] rfl) (cq le_m48 ok [0,1] rfl)) λhT=>kt 0 E rfl hT (qad rfl) λa E=>kt 1 E rfl hT (qan rfl) λa E=>kt 2 E rfl hT (qaj qnK rfl) λa E=>kt 3 E rfl hT (qaw qpk rfl (Holds.cown 0 rfl rfl)) λa E=>kt 4 E rfl hT (qad rfl) λa E=>kt 5 E rfl hT (qad rfl) λa E=>kt 6 E rfl hT (qan rfl) λa E=>kt 7 E rfl hT (qaj qnK rfl) λa E=>kt 8 E rfl hT (qaw qpk rfl (Holds.cown 0 rfl rfl)) λa E=>kt 9 E rfl hT (qad rfl) λa E=>kt 11 E rfl hT (qad rfl) λa E=>kt 12 E rfl hT (qan rfl) λa E=>kt 13 E rfl hT (qaj qhd rfl) λa E=>kt 14 E rfl hT (qaw qiT rfl (Holds.cown 0 rfl rfl)) λa E=>kt 15 E rfl hT (qeB qiC h72 rfl) λa E=>qaU [10,16] (by kernel_rfl) rfl (qnm ?_ (qnm ?_ (qq9)))
 rotate_left
 ·refine wo rfl<|qbF (R:=(pI .i64)) (xo:=[.tmp 79]) (xs:=([(v68.segments.length:Int)]:List (Int))) E ok qet qgA rfl ⟨⟨_,rfl,rfl,(qdY (ORow.InR h72))⟩,trivial⟩ rfl rfl rfl rfl λc132 M133 a w E ok h134=>wn<|qaq (cl1 (cq le_m48 ok [1,2] rfl) (cq le_m48 ok [1,2] rfl)) λhT=>qaU [10] (by kernel_rfl) rfl (qa1 ?_)
  ·refine qci (o:=_) rfl ?_
   replace ok:Ok u m48 (M74::M133::[(pb0,oc 52 [c70,c73])]::M71::S) w:=(ok.pk 4 [3,0,1,2] rfl (by decide))
   obtain⟨raw135,M136,M137,M138,c139,ok,h140,h141,ho142,yy143⟩:=NMap.look (P:=Tryz.prog) (mo:=.tmp 72) (ko:=.tmp 73) ok (qbe Tryz.underlying9) Tryz.underlying49 h75 l86 (qaD E rfl) (qaD E rfl) qmy
   refine lv E ok (yy143 _) λa E=>wn<|qaq (cl1 (cq le_m48 ok [4,5] rfl) (cq le_m48 ok [4,5] rfl)) λhT=>qaU [17] (by kernel_rfl) rfl (qa1 ?_)
   ·refine wo rfl<|qcf (R:=(pI .i64)) E ok 1 (mI .i64) qet Tryz.underlying58 rfl h141 (qbD.ofRow h134 3 rfl ok) e107 ⟨_,qgA,rfl⟩ rfl rfl rfl rfl λc144 M145 a w E ok h146=>wn<|qaq (cl1 (cq le_m48 ok [4,5] rfl) (cq le_m48 ok [4,5] rfl)) λhT=>qaU [18] (by kernel_rfl) rfl (qa1 ?_)
    ·refine wo rfl<|qov (.inl rfl) E ok (qbe Tryz.underlying9) Tryz.underlying49 h140 h146 ho142 l86 e112 rfl rfl rfl rfl λM147 w ok h148=>wn<|qaq (cl1 (cq le_m48 ok [2,3] rfl) (cq le_m48 ok [2,3] rfl)) λhT=>qbv (by kernel_rfl) ?_
     exact⟨rfl,⟨c70,M71,c73,M147,(ok.pk 4 [2,3,0] rfl (by decide)),E.keep [0,1,2,7,58,59,60],h72,h148⟩⟩
 refine qci (o:=_) rfl ?_
 replace ok:Ok u m48 (M74::[(pb0,oc 52 [c70,c73])]::M71::S) w:=(ok.pk 3 [2,0,1] rfl (by decide))
 obtain⟨raw115,M116,M117,M118,c119,ok,h120,h121,ho122,yy123⟩:=NMap.look (P:=Tryz.prog) (mo:=.tmp 72) (ko:=.tmp 73) ok (qbe Tryz.underlying9) Tryz.underlying49 h75 l86 (qaD E rfl) (qaD E rfl) qmy
 refine lv E ok (yy123 _) λa E=>wn<|qaq (cl1 (cq le_m48 ok [3,4] rfl) (cq le_m48 ok [3,4] rfl)) λhT=>qaU [16] (by kernel_rfl) rfl (qa1 ?_)
 ·refine wo rfl<|qbF (R:=(pI .i64)) (xo:=[.tmp 79]) (xs:=([(v68.segments.length:Int)]:List (Int))) E ok qet qgA rfl ⟨⟨_,rfl,rfl,(qdY (ORow.InR h72))⟩,trivial⟩ rfl rfl rfl rfl λc124 M125 a w E ok h126=>wn<|qaq (cl1 (cq le_m48 ok [4,5] rfl) (cq le_m48 ok [4,5] rfl)) λhT=>qaU [17] (by kernel_rfl) rfl (qa1 ?_)
  ·refine wo rfl<|qcf (R:=(pI .i64)) E ok 2 (mI .i64) qet Tryz.underlying58 rfl h121 (qbD.ofRow h126 0 rfl ok) e107 ⟨_,qgA,rfl⟩ rfl rfl rfl rfl λc127 M128 a w E ok h129=>wn<|qaq (cl1 (cq le_m48 ok [4,5] rfl) (cq le_m48 ok [4,5] rfl)) λhT=>qaU [18] (by kernel_rfl) rfl (qa1 ?_)
   ·refine qci (o:=_) rfl ?_
    replace ok:Ok u m48 (M116::M128::M118::M125::[(pb0,oc 52 [c70,c73])]::M71::S) w:=(ok.pk 6 [1,2,3,0,4,5] rfl (by decide))
    refine qov (.inl rfl) E ok (qbe Tryz.underlying9) Tryz.underlying49 h120 h129 ho122 l86 e112 rfl rfl rfl rfl λM130 w ok h131=>wn<|qaq (cl1 (cq le_m48 ok [2,3] rfl) (cq le_m48 ok [2,3] rfl)) λhT=>qbv (by kernel_rfl) ?_
    exact⟨rfl,⟨c70,M71,c73,M130,(ok.pk 4 [2,3,0] rfl (by decide)),E.keep [0,1,2,7,58,59,60],h72,h131⟩⟩
def qlc(u:World)(m0:Mem)(S:Segs)(pb0:Nat)(x0:Memory)(c1:Value)(M2:List (Nat×Obj))(c4:Value)(M5:List (Nat×Obj))(r:Int)(a:Act)(w:World):Prop:=
 Ok u m0 ([(pb0,oc 52 [c1,c4])]::M2::M5::S) w∧a.defers=[]∧RVs Tryz.prog a w [.t 2 (.int .i64 r)]∧InR .i64 r
theorem qlb(N:Nat){pb0:Nat}{c1:Value}{M2:List (Nat×Obj)}{c4:Value}{M5:List (Nat×Obj)}(x0:Memory)(h3:ORow 56 3 qbM m0 c1 x0.segments M2)(h6:NMap 3 m0 c4 x0.byWord M5){r:Int}(hF:qfL N x0=some r)(hG:Glob u)(ok:Ok u m0 ([(pb0,oc 52 [c1,c4])]::M2::M5::S) w) :
  Calls Tryz.prog 6 [vp pb0].toArray w λe w'=>(e=.returned (.int .i64 r)∧Ok u m0 ([(pb0,oc 52 [c1,c4])]::M2::M5::S) w')∧InR .i64 r:=by
 unfold qfL at hF
 refine en (qlc u m0 S pb0 x0 c1 M2 c4 M5) r Tryz.func6 rfl rfl rfl (λ_ _ h=>rb h rfl) λfin a E=>sg<|aw E rfl λa E=>wp_seq<|sg<|mv E rfl λa E=>lv E ok (qhP Tryz.underlying23 rfl rfl) λa E=>wn<|c_if E rfl (λh=>by cases h) (λ_=>?_)
 refine wp_skip<|qaa<|sg<|mv E rfl λa E=>lw E (qan rfl) λa E=>fk E ok qhd qiT rfl 0 rfl rfl λa E=>lv E ok (qeB qiC h3 rfl) λa E=>aw E rfl λa E=>wp_ret ?_
 exact fin hF ⟨ok,E.d,rz E rfl,(ORow.InR h3)⟩
def qih(u:World)(m0:Mem)(S:Segs)(pb0:Nat)(x0:Memory)(c1:Value)(M2:List (Nat×Obj))(c4:Value)(M5:List (Nat×Obj))(r:(List (Int))×Memory)(a:Act)(w:World):Prop:=
 ∃ m1 v0 c7 M8 c10 M11,m0.le m1∧Ok u m1 ([(pb0,oc 52 [c7,c10])]::M8::M11::S) w∧a.defers=[]∧RVs Tryz.prog a w [.t 6 v0]∧(pL 1 (pI .i64)) m1 [v0] r.1∧ORow 56 3 qbM m1 c7 r.2.segments M8∧NMap 3 m1 c10 r.2.byWord M11
theorem qib(N:Nat)(vwords_1:Value)(words_1:List (List UInt8))(hwords_1:(pL 1 pS) m0 [vwords_1] words_1)(least_2:Int)(rleast_2:InR .i64 least_2){pb0:Nat}{c1:Value}{M2:List (Nat×Obj)}{c4:Value}{M5:List (Nat×Obj)}(x0:Memory)(h3:ORow 56 3 qbM m0 c1 x0.segments M2)(h6:NMap 3 m0 c4 x0.byWord M5){r:(List (Int))×Memory}(hF:qdz N words_1 least_2 x0=some r)(hG:Glob u)(ok:Ok u m0 ([(pb0,oc 52 [c1,c4])]::M2::M5::S) w) :
  Calls Tryz.prog 29 [vp pb0,vwords_1,vi least_2].toArray w λe w'=>∃ m1 v0 c7 M8 c10 M11,e=.returned v0∧m0.le m1∧Ok u m1 ([(pb0,oc 52 [c7,c10])]::M8::M11::S) w'∧(pL 1 (pI .i64)) m1 [v0] r.1∧ORow 56 3 qbM m1 c7 r.2.segments M8∧NMap 3 m1 c10 r.2.byWord M11:=by
 have le_m0:=Mem.le.refl m0
 unfold qdz at hF
 refine en (qih u m0 S pb0 x0 c1 M2 c4 M5) r Tryz.func29 rfl rfl rfl (by rintro a w ⟨m1,v0,c7,M8,c10,M11,hle,ok,hd,hrv,h0,h1,h2⟩;exact qbf [.t 6 v0] hd rfl hrv ⟨m1,v0,c7,M8,c10,M11,rfl,hle,ok,h0,h1,h2⟩) λfin a E=>sg<|aw E rfl λa E=>sg<|aw E rfl λa E=>wp_seq<|sg<|mv E rfl λa E=>lw E (qc8 rfl rfl) λa E=>wn<|cf E rfl hF (λc13 hF=>?_) λc13 hF=>?_
 ·as_aux_lemma=>
   refine wp_seq<|sg<|mv E rfl λa E=>lw E (qan rfl) λa E=>fk E ok qhd qiT rfl 0 rfl rfl λa E=>lv E ok (qeB qiC h3 rfl) λa E=>mv E rfl λa E=>wn<|wp_block ?_
   obtain⟨M19,ok,h20⟩:=qd9 (e:=3) (k:=1) (R:=(pI .i64)) ok
   refine bd hF λo21 hL hF=>qbb _ (λ(s:(List (Int))×Int) a w=>∃ c22 M23,Ok u m0 (M23::[(pb0,oc 52 [c1,c4])]::M2::M5::S) w∧Env 47 a [(7,c22),(17,(vi (x0.segments.length:Int))),(18,vi s.2)]∧ORow 3 1 (pI .i64) m0 c22 s.1 M23∧InR .i64 s.2) (λ(b:((List (Int)))) e a w=>e=(.exit 0)∧∃ c46 M47,Ok u m0 (M47::[(pb0,oc 52 [c1,c4])]::M2::M5::S) w∧Env 47 a [(7,c46)]∧ORow 3 1 (pI .i64) m0 c46 b M47) ?_ ?_ N _ a w hL ⟨(Value.slice none 0 0),M19,ok,E.keep [7,17,18],h20,(ir 0)⟩
   rotate_left
   ·intro e a w _ hO
    obtain⟨rfl,c41,M42,ok,E,h43⟩:=hO
    refine qbh<|qaa<|sg<|mv E rfl λa E=>aw E rfl λa E=>wp_ret<|qak ?_
    obtain⟨m44,hle,ok,hfz⟩:=(ok.frs 0 rfl).freeze
    have h45:=ORow.froz (mI .i64) h43 hle hfz (by decide)
    have le_m0:=le_m0.trans hle
    have hwords_1:=(mL mS).up hle hwords_1
    have h3:=ORow.up qaT hle h3
    have h6:=NMap.up hle h6
    exact fin hF ⟨m44,c41,c1,M2,c4,M5,le_m0,ok,E.d,rz E rfl,h45,h3,h6⟩
   rintro⟨v26,v27⟩ a w r ⟨c28,M29,ok,E,h30,r31⟩ hF
   replace hF:qey N x0 v26 v27=some r:=hF
   unfold qey at hF
   refine sg<|lw E (qaP rfl rfl) λa E=>wn<|wp_seq<|cg E rfl hF (λc32 hF=>?_) λc32 hF=>?_
   ·refine wp_exit<|qaM ?_
    cases hF
    exact so (⟨rfl,⟨c28,M29,ok,E.keep [7],h30⟩⟩)
   refine wp_skip<|qaa<|wp_seq<|wp_block<|sg<|mv E rfl λa E=>av E rfl λa E=>wn<|qab<|mz E rfl rfl λa E=>qbF (R:=(pI .i64)) (xo:=[.tmp 22]) (xs:=([v27]:List (Int))) E ok qet qgA rfl ⟨⟨_,rfl,rfl,(qdY r31)⟩,trivial⟩ rfl rfl rfl rfl λc33 M34 a w E ok h35=>?_
   refine bd hF λl36 e37 hF=>qcf (R:=(pI .i64)) E ok 1 (mI .i64) qet Tryz.underlying58 rfl h30 (qbD.ofRow h35 0 rfl ok) e37 ⟨_,qgA,rfl⟩ rfl rfl rfl rfl λc38 M39 a w E ok h40=>av E rfl λa E=>wpList_nil<|qal<|qaa<|qab<|lw E (qaH rfl rfl (InR.inc r31 (ORow.InR h3) c32)) λa E=>mv E rfl λa E=>wpList_nil ?_
   cases hF
   exact qau ⟨c38,M39,(ok.pk 5 [1,2,3,4] rfl (by decide)),E.keep [7,17,18],h40,(InR.inc r31 (ORow.InR h3) c32)⟩
 refine wp_skip<|qaa<|wp_seq<|sg<|mv E rfl λa E=>bd hF λr49 e50 hF=>qae E qtv rfl (qk9 N _ words_1 hwords_1 e50 hG ok) rfl rfl ?_
 rintro _ w ⟨m51,c52,rfl,hle,ok,h53⟩
 have le_m0:=le_m0.trans hle
 have hwords_1:=(mL mS).up hle hwords_1
 have h3:=ORow.up qaT hle h3
 have h6:=NMap.up hle h6
 refine⟨_,rfl,λa E=>?_⟩
 refine lv E ok (qa8 qce h53 rfl) λa E=>mv E rfl λa E=>wn<|wp_block ?_
 obtain⟨M65,ok,h66⟩:=qd9 (e:=3) (k:=1) (R:=(pI .i64)) ok
 refine bd hF λo67 hL hF=>qbb _ (λ(s:(List (Int))×Int×Memory) a w=>∃ c68 M69 c72 M73 c75 M76,Ok u m51 (M69::[(pb0,oc 52 [c72,c75])]::M73::M76::S) w∧Env 47 a [(0,vp pb0),(7,c68),(28,c52),(29,(vi (r49.length:Int))),(30,vi s.2.1)]∧ORow 3 1 (pI .i64) m51 c68 s.1 M69∧InR .i64 s.2.1∧ORow 56 3 qbM m51 c72 s.2.2.segments M73∧NMap 3 m51 c75 s.2.2.byWord M76) (λ(b:(Memory×(List (Int)))) e a w=>e=(.exit 2)∧∃ c136 M137 c139 M140 c142 M143,Ok u m51 (M143::[(pb0,oc 52 [c136,c139])]::M137::M140::S) w∧Env 47 a [(7,c142)]∧ORow 56 3 qbM m51 c136 b.1.segments M137∧NMap 3 m51 c139 b.1.byWord M140∧ORow 3 1 (pI .i64) m51 c142 b.2 M143) ?_ ?_ N _ a w hL ⟨(Value.slice none 0 0),M65,c1,M2,c4,M5,ok,E.keep [0,7,28,29,30],h66,(ir 0),h3,h6⟩
 rotate_left
 ·intro e a w _ hO
  obtain⟨rfl,c118,M119,c121,M122,c124,M125,ok,E,h120,h123,h126⟩:=hO
  refine qbh<|qaa<|sg<|mv E rfl λa E=>bd hF λl127 e128 hF=>qae E qvD rfl (qrr Tryz.lays189 0 rfl e128 h126 ok) rfl rfl ?_
  rintro _ w ⟨rfl,M129,h130,ok⟩
  refine⟨_,rfl,λa E=>?_⟩
  refine wn<|sg<|mv E rfl λa E=>qae E qvF rfl (qpH Tryz.laysNm220 0 rfl h130 ok) rfl rfl ?_
  rintro _ w ⟨c131,M132,rfl,h133,ok⟩
  refine⟨_,rfl,λa E=>?_⟩
  refine aw E rfl λa E=>wp_ret ?_
  obtain⟨m134,hle,ok,hfz⟩:=(ok.frs 0 rfl).freeze
  have h135:=ORow.froz (mI .i64) h133 hle hfz (by decide)
  have le_m0:=le_m0.trans hle
  have hwords_1:=(mL mS).up hle hwords_1
  have h53:=(mL mS).up hle h53
  have h120:=ORow.up qaT hle h120
  have h123:=NMap.up hle h123
  exact fin hF ⟨m134,c131,c118,M119,c121,M122,le_m0,ok,E.d,rz E rfl,h135,h120,h123⟩
 rintro⟨v78,v79,v80⟩ a w r ⟨c81,M82,c85,M86,c88,M89,ok,E,h83,r84,h87,h90⟩ hF
 replace hF:qcw N r49 v78 v79 v80=some r:=hF
 unfold qcw at hF
 refine sg<|lw E (qaP rfl rfl) λa E=>wn<|wp_seq<|cg E rfl hF (λc91 hF=>?_) λc91 hF=>?_
 ·refine wp_exit<|qaM ?_
  cases hF
  exact so (⟨rfl,⟨c85,M86,c88,M89,c81,M82,ok,E.keep [7],h87,h90,h83⟩⟩)
 refine wp_skip<|qaa<|wp_seq<|wp_block<|sg ?_
 obtain⟨x92,e93,hF⟩:=bnd hF
 obtain⟨b94,o95,es96,hl97,rr98,at99,yy100⟩:=ia E 28 30 qce h53 e93
 obtain⟨rfl,l101⟩:=rr98
 refine lv E ok (yy100 _ _) λa E=>lv E ok (qaw qax rfl (Holds.ro at99)) λa E=>aw E rfl λa E=>qab<|mz E rfl rfl λa E=>lw E (qan rfl) λa E=>fk E ok qnK qpk rfl 1 rfl rfl λa E=>mv E rfl λa E=>?_
 replace ok:Ok u m51 (M89::M82::[(pb0,oc 52 [c85,c88])]::M86::S) w:=(ok.pk 4 [3,0,1,2] rfl (by decide))
 obtain⟨raw102,M103,M104,M105,c106,ok,h107,h108,ho109,yy110⟩:=NMap.look (P:=Tryz.prog) (mo:=.tmp 38) (ko:=.tmp 39) ok (qbe Tryz.underlying9) Tryz.underlying49 h90 l101 (qaD E rfl) (qaD E rfl) qmy
 refine lv E ok (yy110 _) λa E=>bd hF λl111 e112 hF=>qcf (R:=(pI .i64)) E ok 3 (mI .i64) qet Tryz.underlying58 rfl h83 (qbD.ofRow h108 1 rfl ok) e112 ⟨_,qgA,rfl⟩ rfl rfl rfl rfl λc113 M114 a w E ok h115=>av E rfl λa E=>?_
 obtain⟨M116,ok,h117⟩:=NMap.close0 ok h107 h108 ho109
 refine wpList_nil<|qal<|qaa<|qab<|lw E (qaH rfl rfl (InR.inc r84 (qas h53) c91)) λa E=>mv E rfl λa E=>wpList_nil ?_
 cases hF
 exact qau ⟨c113,M114,c85,M86,c88,M116,(ok.pk 4 [1,2,3,0] rfl (by decide)),E.keep [0,7,28,29,30],h115,(InR.inc r84 (qas h53) c91),h87,h117⟩
def qkb(u:World)(m0:Mem)(S:Segs)(r:Int)(a:Act)(w:World):Prop:=
 Ok u m0 S w∧a.defers=[]∧RVs Tryz.prog a w [.t 4 (.int .i64 r)]∧InR .i64 r
theorem qeH(N:Nat)(va_0:List Value)(a_0:Match)(ha_0:qa7 m0 va_0 a_0)(vb_1:List Value)(b_1:Match)(hb_1:qa7 m0 vb_1 b_1){r:Int}(hF:qcu N a_0 b_1=some r)(hG:Glob u)(ok:Ok u m0 S w) :
  Calls Tryz.prog 32 [.agg va_0.toArray,.agg vb_1.toArray].toArray w λe w'=>(e=.returned (.int .i64 r)∧Ok u m0 S w')∧InR .i64 r:=by
 obtain⟨rfl,r1,r2,l3,l4⟩:=ha_0
 obtain⟨rfl,r5,r6,l7,l8⟩:=hb_1
 unfold qcu at hF
 refine en (qkb u m0 S) r Tryz.func32 rfl rfl rfl (λ_ _ h=>rb h rfl) λfin a E=>sg<|qgl E ok rfl rfl rfl λb9 a w E ok=>qgl E ok rfl rfl rfl λb10 a w E ok=>aw E rfl λa E=>sg<|fk E ok qnV qaN rfl 0 rfl rfl λa E=>fk E ok qnV qaN rfl 1 rfl rfl λa E=>lw E (qcP rfl rfl) λa E=>av E rfl λa E=>wn<|wp_ret ?_
 exact fin hF ⟨ok.drop.drop,E.d,rz E rfl,(InR.wrap _ _)⟩
def qfj(u:World)(m0:Mem)(S:Segs)(x0:List (Match))(vm0:Value)(Mm0:List (Nat×Obj))(r:(List (Match)))(a:Act)(w:World):Prop:=
 ∃ m1 M1,m0.le m1∧Ok u m1 ([]::M1::S) w∧a.defers=[]∧RVs Tryz.prog a w []∧ORow 33 4 qa7 m1 vm0 r M1
theorem qdH(N:Nat)(a_1:Int)(ra_1:InR .i64 a_1)(b_2:Int)(rb_2:InR .i64 b_2){vm0:Value}{Mm0:List (Nat×Obj)}(x0:List (Match))(hm0:ORow 33 4 qa7 m0 vm0 x0 Mm0){r:(List (Match))}(hF:qaK N a_1 b_2 x0=some r)(hG:Glob u)(ok:Ok u m0 ([]::Mm0::S) w) :
  Calls Tryz.prog 82 [vm0,vi a_1,vi b_2,Value.func (.func 32) #[] #[]].toArray w λe w'=>∃ m1 M1,e=.returned (.tuple [].toArray)∧m0.le m1∧Ok u m1 ([]::M1::S) w'∧ORow 33 4 qa7 m1 vm0 r M1:=by
 have le_m0:=Mem.le.refl m0
 unfold qaK at hF
 refine en (qfj u m0 S x0 vm0 Mm0) r Tryz.func82 rfl rfl rfl (by rintro a w ⟨m1,M1,hle,ok,hd,hrv,h0⟩;exact qbf [] hd rfl hrv ⟨m1,M1,rfl,hle,ok,h0⟩) λfin a E=>sg<|mv E rfl λa E=>lw E (qbk rfl rfl) λa E=>aw E rfl λa E=>wp_block<|bd hF λo7 hL hF=>qbb _ (λ(s:Int×(List (Match))) a w=>∃ M9,Ok u m0 ([]::M9::S) w∧Env 53 a [(0,vm0),(1,vi a_1),(2,vi b_2),(3,(Value.func (.func 32) #[] #[])),(8,vi s.1)]∧InR .i64 s.1∧ORow 33 4 qa7 m0 vm0 s.2 M9) (λ(b:((List (Match)))) e a w=>e=(.exit 0)∧∃ M184,Ok u m0 ([]::M184::S) w∧Env 53 a []∧ORow 33 4 qa7 m0 vm0 b M184) ?_ ?_ N _ a w hL ⟨Mm0,ok,E.keep [0,1,2,3,8],(InR.wrap _ _),hm0⟩
 rotate_left
 ·intro e a w _ hO
  obtain⟨rfl,M182,ok,E,h183⟩:=hO
  refine qbh ?_
  exact fin hF ⟨m0,M182,le_m0,ok,E.d,trivial,h183⟩
 rintro⟨v11,v12⟩ a w r ⟨M14,ok,E,r13,h15⟩ hF
 replace hF:qaG N a_1 b_2 v11 v12=some r:=hF
 unfold qaG at hF
 refine wp_seq<|sg<|mz E rfl rfl λa E=>lw E (qaP rfl rfl) λa E=>wn<|cg E rfl hF (λc16 hF=>?_) λc16 hF=>?_
 ·refine wp_exit<|qaM ?_
  cases hF
  exact so (⟨rfl,⟨M14,ok,E.keep [],h15⟩⟩)
 refine wp_skip<|qaa<|wp_seq<|wp_block<|sg<|mv E rfl λa E=>av E rfl λa E=>wn<|wp_block<|bd hF λo21 hL hF=>qbb _ (λ(s:Int×(List (Match))) a w=>∃ M23,Ok u m0 ([]::M23::S) w∧Env 53 a [(0,vm0),(1,vi a_1),(2,vi b_2),(3,(Value.func (.func 32) #[] #[])),(8,vi v11),(9,vi s.1)]∧InR .i64 s.1∧ORow 33 4 qa7 m0 vm0 s.2 M23) (λ(b:((List (Match)))) e a w=>e=(.exit 2)∧∃ M180,Ok u m0 ([]::M180::S) w∧Env 53 a [(0,vm0),(1,vi a_1),(2,vi b_2),(3,(Value.func (.func 32) #[] #[])),(8,vi v11)]∧ORow 33 4 qa7 m0 vm0 b M180) ?_ ?_ N _ a w hL ⟨M14,ok,E.keep [0,1,2,3,8,9],r13,h15⟩
 rotate_left
 ·intro e a w _ hO
  obtain⟨rfl,M178,ok,E,h179⟩:=hO
  refine qbh<|qal<|qaa<|qab<|mv E rfl λa E=>lw E (qaH rfl rfl (InR.inc r13 rb_2 c16)) λa E=>av E rfl λa E=>wpList_nil ?_
  cases hF
  exact qau ⟨M178,ok,E.keep [0,1,2,3,8],(InR.inc r13 rb_2 c16),h179⟩
 rintro⟨v25,v26⟩ a w r ⟨M28,ok,E,r27,h29⟩ hF
 replace hF:qaV N a_1 v25 v26=some r:=hF
 unfold qaV at hF
 refine wp_seq<|wp_seq<|bd hF λo30 hJ hF=>qaO (Q':=λe a w=>e=.normal∧Ok u m0 ([]::M28::S) w∧Env 53 a [(0,vm0),(1,vi a_1),(2,vi b_2),(3,(Value.func (.func 32) #[] #[])),(8,vi v11),(9,vi v25),(34,vb o30)]) ?_ ?_
 ·have hF:=hJ
  refine qbx (decide (v25>a_1)) (λc31=>?_) (λc31=>?_)
  rotate_left
  ·have hF:=qby c31 hF
   cases hF
   refine qbl [] (Cls u m0 ([]::M28::[])) (Cls u m0 ([]::M28::[])) (by kernel_rfl) ?_
   intro w hw
   replace ok:=qbA ok hw
   clear hw
   refine qaq (cl1 (cq le_m0 ok [0,1] rfl) (cq le_m0 ok [0,1] rfl)) λhT=>kt 0 E rfl hT (qad rfl) λa E=>kt 1 E rfl hT (qad rfl) λa E=>kt 2 E rfl hT (qcv rfl rfl) λa E=>kt 3 E rfl hT (qad rfl) λa E=>?_
   have E:=E.upd 21 c31 rfl
   refine qaf 4 false E rfl (by kernel_rfl) nP hT rfl rfl λa E=>qaf 5 false E rfl (by kernel_rfl) nP hT rfl rfl λa E=>qaf 6 false E rfl (by kernel_rfl) nP hT rfl rfl λa E=>qaf 7 false E rfl (by kernel_rfl) nP hT rfl rfl λa E=>qaf 8 false E rfl (by kernel_rfl) nP hT rfl rfl λa E=>qaf 9 false E rfl (by kernel_rfl) nP hT rfl rfl λa E=>qaf 10 false E rfl (by kernel_rfl) nP hT rfl rfl λa E=>qaf 11 false E rfl (by kernel_rfl) nP hT rfl rfl λa E=>qaf 12 false E rfl (by kernel_rfl) nP hT rfl rfl λa E=>qaf 13 false E rfl (by kernel_rfl) nP hT rfl rfl λa E=>qaf 14 false E rfl (by kernel_rfl) nP hT rfl rfl λa E=>qaf 15 false E rfl (by kernel_rfl) nP hT rfl rfl λa E=>kt 16 E rfl hT (qbX rfl rfl) λa E=>qbv (by kernel_rfl) ?_
   exact⟨rfl,⟨ok,E.keep [0,1,2,3,8,9,34]⟩⟩
  have hF:=qbz c31 hF
  obtain⟨x32,e33,hF⟩:=bnd hF
  obtain⟨x46,e47,hF⟩:=bnd hF
  obtain⟨r60,e61,hF⟩:=bnd hF
  obtain rfl:=sj hF
  refine qbl [] (Cls u m0 ([]::M28::[])) (Cls u m0 ([]::M28::[])) (by kernel_rfl) ?_
  intro w hw
  replace ok:=qbA ok hw
  clear hw
  refine qaq (cl1 (cq le_m0 ok [0,1] rfl) (cq le_m0 ok [0,1] rfl)) λhT=>kt 0 E rfl hT (qad rfl) λa E=>kt 1 E rfl hT (qad rfl) λa E=>kt 2 E rfl hT (qcv rfl rfl) λa E=>kt 3 E rfl hT (qad rfl) λa E=>?_
  have E:=E.upd 21 c31 rfl
  refine kt 4 E rfl hT (qad rfl) λa E=>kt 5 E rfl hT (qad rfl) λa E=>kt 6 E rfl hT (qad rfl) λa E=>?_
  obtain⟨b63,o64,hp65,yy66⟩:=qb2 qds h29 e33 (P:=Tryz.prog) (X:=.tmp 23) (I:=.tmp 24) (kd:=.i64) (qaD E rfl) (qaD E rfl)
  refine kt 7 E rfl hT (yy66 _ _) λa E=>?_
  obtain⟨es67,hl68,rr69,hh70⟩:=qcF h29 e33 hp65 (by decide)
  obtain⟨rfl,r71,r72,l73,l74⟩:=rr69
  refine kt 8 E rfl hT (qao (cs:=[vi x32.Index,vi x32.Similar,vs x32.Source,vs x32.Target]) qee rfl rfl (Holds.crow hh70 1 rfl)) λa E=>kt 9 E rfl hT (qad rfl) λa E=>kt 10 E rfl hT (qad rfl) λa E=>kt 11 E rfl hT (qlW rfl rfl (InR.dec r27 ra_1 c31)) λa E=>?_
  obtain⟨b75,o76,hp77,yy78⟩:=qb2 qds h29 e47 (P:=Tryz.prog) (X:=.tmp 27) (I:=.tmp 29) (kd:=.i64) (qaD E rfl) (qaD E rfl)
  refine kt 12 E rfl hT (yy78 _ _) λa E=>?_
  obtain⟨es79,hl80,rr81,hh82⟩:=qcF h29 e47 hp77 (by decide)
  obtain⟨rfl,r83,r84,l85,l86⟩:=rr81
  refine kt 13 E rfl hT (qao (cs:=[vi x46.Index,vi x46.Similar,vs x46.Source,vs x46.Target]) qee rfl rfl (Holds.crow hh82 1 rfl)) λa E=>qaU [14] (by kernel_rfl) rfl (qa1 ?_)
  ·refine wo rfl<|qhD E rfl qoL rfl (qeH N _ x32 ⟨rfl,r71,r72,l73,l74⟩ _ x46 ⟨rfl,r83,r84,l85,l86⟩ e61 hG ok) rfl rfl ?_
   rintro _ w ⟨⟨rfl,ok⟩,r87⟩
   refine⟨_,rfl,λa E=>?_⟩
   refine wn<|qaq (cl1 (cq le_m0 ok [0,1] rfl) (cq le_m0 ok [0,1] rfl)) λhT=>kt 15 E rfl hT (qaP rfl rfl) λa E=>kt 16 E rfl hT (qb1 rfl rfl) λa E=>qbv (by kernel_rfl) ?_
   exact⟨rfl,⟨ok,E.keep [0,1,2,3,8,9,34]⟩⟩
 intro e a w hO
 obtain⟨rfl,ok,E⟩:=hO
 refine qaa<|cg E rfl hF (λc88 hF=>?_) λc88 hF=>?_
 ·refine wp_exit<|qaM ?_
  cases hF
  exact so (⟨rfl,⟨M28,ok,E.keep [0,1,2,3,8],h29⟩⟩)
 refine wp_skip<|qaa<|wp_seq<|wp_block<|bd hF λo89 hJ hF=>qaO (Q':=λe a w=>e=.normal∧∃ M90,Ok u m0 ([]::M90::S) w∧Env 53 a [(0,vm0),(1,vi a_1),(2,vi b_2),(3,(Value.func (.func 32) #[] #[])),(8,vi v11),(9,vi v25)]∧ORow 33 4 qa7 m0 vm0 o89 M90) ?_ ?_
 rotate_left
 ·intro e a w hO
  obtain⟨rfl,M176,ok,E,h177⟩:=hO
  refine qal<|qaa<|qab<|mv E rfl λa E=>lw E (qcP rfl rfl) λa E=>av E rfl λa E=>wpList_nil ?_
  cases hF
  exact qau ⟨M176,ok,E.keep [0,1,2,3,8,9],(InR.wrap _ _),h177⟩
 have hF:=hJ
 obtain⟨x92,e93,hF⟩:=bnd hF
 obtain⟨x106,e107,hF⟩:=bnd hF
 obtain⟨x120,e121,hF⟩:=bnd hF
 obtain⟨l126,e127,hF⟩:=bnd hF
 obtain⟨x130,e131,hF⟩:=bnd hF
 obtain⟨l136,e137,hF⟩:=bnd hF
 obtain rfl:=sj hF
 refine qbl [9,13] (Cls u m0 ([]::M28::[])) (Cls u m0 ([])) (by kernel_rfl) ?_
 intro w hw
 replace ok:=qbA ok hw
 clear hw
 refine qaq (cl1 (cq le_m0 ok [0,1] rfl) (cq le_m0 ok [] rfl)) λhT=>kt 0 E rfl hT (qad rfl) λa E=>kt 1 E rfl hT (qad rfl) λa E=>kt 2 E rfl hT (qad rfl) λa E=>kt 3 E rfl hT (qad rfl) λa E=>kt 4 E rfl hT (qcP rfl rfl) λa E=>kt 5 E rfl hT (qad rfl) λa E=>kt 6 E rfl hT (qad rfl) λa E=>kt 7 E rfl hT (qcP rfl rfl) λa E=>?_
 obtain⟨b140,o141,hp142,yy143⟩:=qb2 qds h29 e93 (P:=Tryz.prog) (X:=.tmp 42) (I:=.tmp 44) (kd:=.i64) (qaD E rfl) (qaD E rfl)
 refine kt 8 E rfl hT (yy143 _ _) λa E=>?_
 obtain⟨es144,hl145,rr146,hh147⟩:=qcF h29 e93 hp142 (by decide)
 obtain⟨rfl,r148,r149,l150,l151⟩:=rr146
 refine qdg 9 E rfl (by kernel_rfl) nP hT (qao (cs:=[vi x92.Index,vi x92.Similar,vs x92.Source,vs x92.Target]) qee rfl rfl (Holds.crow hh147 1 rfl)) rfl rfl λa E=>kt 10 E rfl hT (qad rfl) λa E=>kt 11 E rfl hT (qad rfl) λa E=>?_
 obtain⟨b152,o153,hp154,yy155⟩:=qb2 qds h29 e107 (P:=Tryz.prog) (X:=.tmp 47) (I:=.tmp 48) (kd:=.i64) (qaD E rfl) (qaD E rfl)
 refine kt 12 E rfl hT (yy155 _ _) λa E=>?_
 obtain⟨es156,hl157,rr158,hh159⟩:=qcF h29 e107 hp154 (by decide)
 obtain⟨rfl,r160,r161,l162,l163⟩:=rr158
 refine qdg 13 E rfl (by kernel_rfl) nP hT (qao (cs:=[vi x106.Index,vi x106.Similar,vs x106.Source,vs x106.Target]) qee rfl rfl (Holds.crow hh159 1 rfl)) rfl rfl λa E=>?_
 obtain⟨b164,o165,hp166,yy167⟩:=qb2 qds h29 e121 (P:=Tryz.prog) (X:=.tmp 37) (I:=.tmp 38) (kd:=.i64) (qaD E rfl) (qaD E rfl)
 refine kt 14 E rfl hT (yy167 _ _) λa E=>qaU [15] (by kernel_rfl) rfl (qa1 ?_)
 ·refine wo rfl<|qed (R:=qa7) E ok 1 rfl h29 e121 hp166 rfl rfl qgp rfl rfl rfl ⟨rfl,rfl,rfl,rfl,trivial⟩ ⟨rfl,r148,r149,l150,l151⟩ e127 rfl λM168 w ok h169=>wn<|qaq (cl2 (by kernel_rfl) (cq le_m0 ok [] rfl)) λhT=>?_
  obtain⟨b170,o171,hp172,yy173⟩:=qb2 qds h169 e131 (P:=Tryz.prog) (X:=.tmp 39) (I:=.tmp 41) (kd:=.i64) (qaD E rfl) (qaD E rfl)
  refine kt 16 E rfl hT (yy173 _ _) λa E=>qaU [17] (by kernel_rfl) rfl (qa1 ?_)
  ·refine wo rfl<|qed (R:=qa7) E ok 1 rfl h169 e131 hp172 rfl rfl qgp rfl rfl rfl ⟨rfl,rfl,rfl,rfl,trivial⟩ ⟨rfl,r160,r161,l162,l163⟩ e137 rfl λM174 w ok h175=>wn<|qaq (cl2 (by kernel_rfl) (cq le_m0 ok [] rfl)) λhT=>qbv (by kernel_rfl) ?_
   exact⟨rfl,⟨M174,ok,E.keep [0,1,2,3,8,9],h175⟩⟩
def qfX(u:World)(m0:Mem)(S:Segs)(x0:List (Match))(vm0:Value)(Mm0:List (Nat×Obj))(r:(List (Match)))(a:Act)(w:World):Prop:=
 ∃ m1 M1,m0.le m1∧Ok u m1 ([]::M1::S) w∧a.defers=[]∧RVs Tryz.prog a w []∧ORow 33 4 qa7 m1 vm0 r M1
theorem qcX(N:Nat)(a_1:Int)(ra_1:InR .i64 a_1)(b_2:Int)(rb_2:InR .i64 b_2)(n_3:Int)(rn_3:InR .i64 n_3){vm0:Value}{Mm0:List (Nat×Obj)}(x0:List (Match))(hm0:ORow 33 4 qa7 m0 vm0 x0 Mm0){r:(List (Match))}(hF:qbq N a_1 b_2 n_3 x0=some r)(hG:Glob u)(ok:Ok u m0 ([]::Mm0::S) w) :
  Calls Tryz.prog 130 [vm0,vi a_1,vi b_2,vi n_3,Value.func (.func 32) #[] #[]].toArray w λe w'=>∃ m1 M1,e=.returned (.tuple [].toArray)∧m0.le m1∧Ok u m1 ([]::M1::S) w'∧ORow 33 4 qa7 m1 vm0 r M1:=by
 have le_m0:=Mem.le.refl m0
 unfold qbq at hF
 refine en (qfX u m0 S x0 vm0 Mm0) r Tryz.func130 rfl rfl rfl (by rintro a w ⟨m1,M1,hle,ok,hd,hrv,h0⟩;exact qbf [] hd rfl hrv ⟨m1,M1,rfl,hle,ok,h0⟩) λfin a E=>sg<|aw E rfl λa E=>wp_block<|bd hF λo7 hL hF=>qbb _ (λ(s:Int×(List (Match))) a w=>∃ M9,Ok u m0 ([]::M9::S) w∧Env 38 a [(0,vm0),(1,vi a_1),(2,vi b_2),(3,vi n_3),(10,vi s.1)]∧InR .i64 s.1∧ORow 33 4 qa7 m0 vm0 s.2 M9) (λ(b:((List (Match)))) e a w=>e=(.exit 0)∧∃ M108,Ok u m0 ([]::M108::S) w∧Env 38 a []∧ORow 33 4 qa7 m0 vm0 b M108) ?_ ?_ N _ a w hL ⟨Mm0,ok,E.keep [0,1,2,3,10],(ir 0),hm0⟩
 rotate_left
 ·intro e a w _ hO
  obtain⟨rfl,M106,ok,E,h107⟩:=hO
  refine qbh ?_
  exact fin hF ⟨m0,M106,le_m0,ok,E.d,trivial,h107⟩
 rintro⟨v11,v12⟩ a w r ⟨M14,ok,E,r13,h15⟩ hF
 replace hF:qba N a_1 b_2 n_3 v11 v12=some r:=hF
 unfold qba at hF
 refine wp_seq<|sg<|mz E rfl rfl λa E=>lw E (qaP rfl rfl) λa E=>wn<|cg E rfl hF (λc16 hF=>?_) λc16 hF=>?_
 ·refine wp_exit<|qaM ?_
  cases hF
  exact so (⟨rfl,⟨M14,ok,E.keep [],h15⟩⟩)
 refine wp_skip<|qaa<|wp_seq<|wp_block<|bd hF λo17 hJ hF=>qaO (Q':=λe a w=>e=.normal∧∃ M18,Ok u m0 ([]::M18::S) w∧Env 38 a [(0,vm0),(1,vi a_1),(2,vi b_2),(3,vi n_3),(10,vi v11)]∧ORow 33 4 qa7 m0 vm0 o17 M18) ?_ ?_
 rotate_left
 ·intro e a w hO
  obtain⟨rfl,M104,ok,E,h105⟩:=hO
  refine qal<|qaa<|qab<|mv E rfl λa E=>lw E (qaH rfl rfl (InR.inc r13 rn_3 c16)) λa E=>av E rfl λa E=>wpList_nil ?_
  cases hF
  exact qau ⟨M104,ok,E.keep [0,1,2,3,10],(InR.inc r13 rn_3 c16),h105⟩
 have hF:=hJ
 obtain⟨x20,e21,hF⟩:=bnd hF
 obtain⟨x34,e35,hF⟩:=bnd hF
 obtain⟨x48,e49,hF⟩:=bnd hF
 obtain⟨l54,e55,hF⟩:=bnd hF
 obtain⟨x58,e59,hF⟩:=bnd hF
 obtain⟨l64,e65,hF⟩:=bnd hF
 obtain rfl:=sj hF
 refine qbl [13,19] (Cls u m0 ([]::M14::[])) (Cls u m0 ([])) (by kernel_rfl) ?_
 intro w hw
 replace ok:=qbA ok hw
 clear hw
 refine qaq (cl1 (cq le_m0 ok [0,1] rfl) (cq le_m0 ok [] rfl)) λhT=>kt 0 E rfl hT (qad rfl) λa E=>kt 1 E rfl hT (qad rfl) λa E=>kt 2 E rfl hT (qad rfl) λa E=>kt 3 E rfl hT (qbk rfl rfl) λa E=>kt 4 E rfl hT (qad rfl) λa E=>kt 5 E rfl hT (qad rfl) λa E=>kt 6 E rfl hT (qad rfl) λa E=>kt 7 E rfl hT (qbk rfl rfl) λa E=>kt 8 E rfl hT (qad rfl) λa E=>kt 9 E rfl hT (qad rfl) λa E=>kt 10 E rfl hT (qad rfl) λa E=>kt 11 E rfl hT (qbk rfl rfl) λa E=>?_
 obtain⟨b68,o69,hp70,yy71⟩:=qb2 qds h15 e21 (P:=Tryz.prog) (X:=.tmp 24) (I:=.tmp 27) (kd:=.i64) (qaD E rfl) (qaD E rfl)
 refine kt 12 E rfl hT (yy71 _ _) λa E=>?_
 obtain⟨es72,hl73,rr74,hh75⟩:=qcF h15 e21 hp70 (by decide)
 obtain⟨rfl,r76,r77,l78,l79⟩:=rr74
 refine qdg 13 E rfl (by kernel_rfl) nP hT (qao (cs:=[vi x20.Index,vi x20.Similar,vs x20.Source,vs x20.Target]) qee rfl rfl (Holds.crow hh75 1 rfl)) rfl rfl λa E=>kt 14 E rfl hT (qad rfl) λa E=>kt 15 E rfl hT (qad rfl) λa E=>kt 16 E rfl hT (qad rfl) λa E=>kt 17 E rfl hT (qbk rfl rfl) λa E=>?_
 obtain⟨b80,o81,hp82,yy83⟩:=qb2 qds h15 e35 (P:=Tryz.prog) (X:=.tmp 30) (I:=.tmp 33) (kd:=.i64) (qaD E rfl) (qaD E rfl)
 refine kt 18 E rfl hT (yy83 _ _) λa E=>?_
 obtain⟨es84,hl85,rr86,hh87⟩:=qcF h15 e35 hp82 (by decide)
 obtain⟨rfl,r88,r89,l90,l91⟩:=rr86
 refine qdg 19 E rfl (by kernel_rfl) nP hT (qao (cs:=[vi x34.Index,vi x34.Similar,vs x34.Source,vs x34.Target]) qee rfl rfl (Holds.crow hh87 1 rfl)) rfl rfl λa E=>?_
 obtain⟨b92,o93,hp94,yy95⟩:=qb2 qds h15 e49 (P:=Tryz.prog) (X:=.tmp 16) (I:=.tmp 19) (kd:=.i64) (qaD E rfl) (qaD E rfl)
 refine kt 20 E rfl hT (yy95 _ _) λa E=>qaU [21] (by kernel_rfl) rfl (qa1 ?_)
 ·refine wo rfl<|qed (R:=qa7) E ok 1 rfl h15 e49 hp94 rfl rfl qgp rfl rfl rfl ⟨rfl,rfl,rfl,rfl,trivial⟩ ⟨rfl,r76,r77,l78,l79⟩ e55 rfl λM96 w ok h97=>wn<|qaq (cl2 (by kernel_rfl) (cq le_m0 ok [] rfl)) λhT=>?_
  obtain⟨b98,o99,hp100,yy101⟩:=qb2 qds h97 e59 (P:=Tryz.prog) (X:=.tmp 20) (I:=.tmp 23) (kd:=.i64) (qaD E rfl) (qaD E rfl)
  refine kt 22 E rfl hT (yy101 _ _) λa E=>qaU [23] (by kernel_rfl) rfl (qa1 ?_)
  ·refine wo rfl<|qed (R:=qa7) E ok 1 rfl h97 e59 hp100 rfl rfl qgp rfl rfl rfl ⟨rfl,rfl,rfl,rfl,trivial⟩ ⟨rfl,r88,r89,l90,l91⟩ e65 rfl λM102 w ok h103=>wn<|qaq (cl2 (by kernel_rfl) (cq le_m0 ok [] rfl)) λhT=>qbv (by kernel_rfl) ?_
   exact⟨rfl,⟨M102,ok,E.keep [0,1,2,3,10],h103⟩⟩
def qf7(u:World)(m0:Mem)(S:Segs)(x0:List (Match))(vm0:Value)(Mm0:List (Nat×Obj))(r:(List (Match)))(a:Act)(w:World):Prop:=
 ∃ m1 M1,m0.le m1∧Ok u m1 ([]::M1::S) w∧a.defers=[]∧RVs Tryz.prog a w []∧ORow 33 4 qa7 m1 vm0 r M1
theorem qgb(N:Nat)(a_1:Int)(ra_1:InR .i64 a_1)(m_2:Int)(rm_2:InR .i64 m_2)(b_3:Int)(rb_3:InR .i64 b_3){vm0:Value}{Mm0:List (Nat×Obj)}(x0:List (Match))(hm0:ORow 33 4 qa7 m0 vm0 x0 Mm0){r:(List (Match))}(hF:qb3 N a_1 m_2 b_3 x0=some r)(hG:Glob u)(ok:Ok u m0 ([]::Mm0::S) w) :
  Calls Tryz.prog 116 [vm0,vi a_1,vi m_2,vi b_3,Value.func (.func 32) #[] #[]].toArray w λe w'=>∃ m1 M1,e=.returned (.tuple [].toArray)∧m0.le m1∧Ok u m1 ([]::M1::S) w'∧ORow 33 4 qa7 m1 vm0 r M1:=by
 have le_m0:=Mem.le.refl m0
 unfold qb3 at hF
 refine en (qf7 u m0 S x0 vm0 Mm0) r Tryz.func116 rfl rfl rfl (by rintro a w ⟨m1,M1,hle,ok,hd,hrv,h0⟩;exact qbf [] hd rfl hrv ⟨m1,M1,rfl,hle,ok,h0⟩) λfin a E=>sg<|mz E rfl rfl λa E=>lw E (qcP rfl rfl) λa E=>av E rfl λa E=>wn<|sg<|mz E rfl rfl λa E=>lw E (qcP rfl rfl) λa E=>av E rfl λa E=>wn<|wp_seq<|wp_block<|bd hF λo9 hL hF=>qbb _ (λ(s:Int×Int×(List (Match))) a w=>∃ m10 M13,m0.le m10∧Ok u m10 ([]::M13::S) w∧Env 58 a [(0,vm0),(2,vi m_2),(4,(Value.func (.func 32) #[] #[])),(10,vi s.1),(11,vi s.2.1)]∧InR .i64 s.1∧InR .i64 s.2.1∧ORow 33 4 qa7 m10 vm0 s.2.2 M13) (λ(b:((List (Match))×Int)) e a w=>e=(.exit 0)∧∃ m44 M45,m0.le m44∧Ok u m44 ([]::M45::S) w∧Env 58 a [(0,vm0),(2,vi m_2),(4,(Value.func (.func 32) #[] #[])),(10,vi b.2)]∧ORow 33 4 qa7 m44 vm0 b.1 M45∧InR .i64 b.2) ?_ ?_ N _ a w hL ⟨m0,Mm0,Mem.le.refl _,ok,E.keep [0,2,4,10,11],(InR.wrap _ _),(InR.wrap _ _),hm0⟩
 rotate_left
 ·intro e a w _ hO
  obtain⟨rfl,m35,M36,hle,ok,E,h37,r38⟩:=hO
  have le_m0:=le_m0.trans hle
  refine qbh<|qaa<|qab<|mz E rfl rfl λa E=>mv E rfl λa E=>lw E (qcP rfl rfl) λa E=>mv E rfl λa E=>mz E rfl rfl λa E=>bd hF λr39 e40 hF=>qae E qpR rfl (qcX N (IntKind.wrap .i64 (m_2-o9.2)) (InR.wrap _ _) m_2 rm_2 o9.2 r38 o9.1 h37 e40 hG ok) rfl rfl ?_
  rintro _ w ⟨m41,M42,rfl,hle,ok,h43⟩
  have le_m0:=le_m0.trans hle
  refine⟨_,rfl,λa E=>?_⟩
  refine wpList_nil ?_
  exact fin hF ⟨m41,M42,le_m0,ok,E.d,trivial,h43⟩
 rintro⟨v15,v16,v17⟩ a w r ⟨m18,M21,hle,ok,E,r19,r20,h22⟩ hF
 replace hF:qaQ N m_2 v15 v16 v17=some r:=hF
 unfold qaQ at hF
 have le_m0:=le_m0.trans hle
 refine wp_seq<|sg<|mz E rfl rfl λa E=>lw E (qbg rfl rfl) λa E=>wn<|cg E rfl hF (λc23 hF=>?_) λc23 hF=>?_
 ·refine wp_exit<|qaM ?_
  cases hF
  exact so (⟨rfl,⟨m18,M21,le_m0,ok,E.keep [0,2,4,10],h22,r19⟩⟩)
 refine wp_skip<|qaa<|wp_block<|sg<|mz E rfl rfl λa E=>lw E (qcv rfl rfl) λa E=>wn<|cf E rfl hF (λc24 hF=>?_) λc24 hF=>?_
 ·refine sg<|mz E rfl rfl λa E=>mv E rfl λa E=>lw E (qcP rfl rfl) λa E=>mz E rfl rfl λa E=>mv E rfl λa E=>bd hF λr25 e26 hF=>qae E qpR rfl (qcX N (IntKind.wrap .i64 (m_2-v15)) (InR.wrap _ _) m_2 rm_2 v16 r20 v17 h22 e26 hG ok) rfl rfl ?_
  rintro _ w ⟨m27,M28,rfl,hle,ok,h29⟩
  have le_m0:=le_m0.trans hle
  refine⟨_,rfl,λa E=>?_⟩
  refine wn<|qab<|mz E rfl rfl λa E=>lw E (qcP rfl rfl) λa E=>av E rfl λa E=>wpList_nil<|qal ?_
  cases hF
  exact qau ⟨m27,M28,le_m0,ok,E.keep [0,2,4,10,11],(InR.wrap _ _),r20,h29⟩
 refine sg<|mz E rfl rfl λa E=>mv E rfl λa E=>lw E (qcP rfl rfl) λa E=>mz E rfl rfl λa E=>lw E (qbk rfl rfl) λa E=>mv E rfl λa E=>lw E (qcP rfl rfl) λa E=>mz E rfl rfl λa E=>bd hF λr30 e31 hF=>qae E qpR rfl (qcX N (IntKind.wrap .i64 (m_2-v15)) (InR.wrap _ _) (IntKind.wrap .i64 ((IntKind.wrap .i64 (m_2+v16))-v15)) (InR.wrap _ _) v15 r19 v17 h22 e31 hG ok) rfl rfl ?_
 rintro _ w ⟨m32,M33,rfl,hle,ok,h34⟩
 have le_m0:=le_m0.trans hle
 refine⟨_,rfl,λa E=>?_⟩
 refine wn<|qab<|mz E rfl rfl λa E=>lw E (qcP rfl rfl) λa E=>av E rfl λa E=>wpList_nil<|qal ?_
 cases hF
 exact qau ⟨m32,M33,le_m0,ok,E.keep [0,2,4,10,11],r19,(InR.wrap _ _),h34⟩
def qfZ(u:World)(m0:Mem)(S:Segs)(x0:List (Match))(vm0:Value)(Mm0:List (Nat×Obj))(r:(List (Match)))(a:Act)(w:World):Prop:=
 ∃ m1 M1,m0.le m1∧Ok u m1 ([]::M1::S) w∧a.defers=[]∧RVs Tryz.prog a w []∧ORow 33 4 qa7 m1 vm0 r M1
def qcg(N:Nat):Prop:=∀ {u:World} {m0:Mem} {S:Segs} {w:World} (a_1:Int) (ra_1:InR .i64 a_1) (m_2:Int) (rm_2:InR .i64 m_2) (b_3:Int) (rb_3:InR .i64 b_3) {vm0:Value} {Mm0:List (Nat×Obj)} (x0:List (Match)) (hm0:ORow 33 4 qa7 m0 vm0 x0 Mm0) {r:(List (Match))} (hF:qap N a_1 m_2 b_3 x0=some r) (hG:Glob u) (ok:Ok u m0 ([]::Mm0::S) w),Calls Tryz.prog 83 [vm0,vi a_1,vi m_2,vi b_3,Value.func (.func 32) #[] #[]].toArray w λe w'=>∃ m1 M1,e=.returned (.tuple [].toArray)∧m0.le m1∧Ok u m1 ([]::M1::S) w'∧ORow 33 4 qa7 m1 vm0 r M1
theorem qfI(N:Nat)(ih_slices_symMergeCmpFunc_memory_Match__32:qcg N):qcg (N+1):=by
 intro u m0 S w a_1 ra_1 m_2 rm_2 b_3 rb_3 vm0 Mm0 x0 hm0 r hF hG ok
 have le_m0:=Mem.le.refl m0
 have hF0:qbJ (qap N) N a_1 m_2 b_3 x0=some r:=hF
 have hF:=hF0
 clear hF0
 unfold qbJ at hF
 refine en (qfZ u m0 S x0 vm0 Mm0) r Tryz.func83 rfl rfl rfl (by rintro a w ⟨m1,M1,hle,ok,hd,hrv,h0⟩;exact qbf [] hd rfl hrv ⟨m1,M1,rfl,hle,ok,h0⟩) λfin a E=>wp_seq<|sg<|mz E rfl rfl λa E=>lw E (qcP rfl rfl) λa E=>lw E (qaz rfl rfl) λa E=>wn<|cf E rfl hF (λc3 hF=>?_) λc3 hF=>?_
 ·as_aux_lemma=>
   refine sg<|mv E rfl λa E=>aw E rfl λa E=>sg<|mv E rfl λa E=>aw E rfl λa E=>wp_seq<|wp_block<|bd hF λo6 hL hF=>qbb _ (λ(s:Int×Int) a w=>Ok u m0 ([]::Mm0::S) w∧Env 220 a [(0,vm0),(1,vi a_1),(4,(Value.func (.func 32) #[] #[])),(10,vi s.1),(11,vi s.2)]∧InR .i64 s.1∧InR .i64 s.2) (λ(b:Int) e a w=>e=(.exit 0)∧Ok u m0 ([]::Mm0::S) w∧Env 220 a [(0,vm0),(1,vi a_1),(10,vi b)]∧InR .i64 b) ?_ ?_ N _ a w hL ⟨ok,E.keep [0,1,4,10,11],rm_2,rb_3⟩
   ·as_aux_lemma=>
     rintro⟨v9,v10⟩ a w r ⟨ok,E,r11,r12⟩ hF
     replace hF:qaZ (qap N) N a_1 x0 v9 v10=some r:=hF
     unfold qaZ at hF
     refine wp_seq<|sg<|mz E rfl rfl λa E=>lw E (qaP rfl rfl) λa E=>wn<|cg E rfl hF (λc13 hF=>?_) λc13 hF=>?_
     ·refine wp_exit<|qaM ?_
      cases hF
      exact so (⟨rfl,⟨ok,E.keep [0,1,10],r11⟩⟩)
     refine wp_skip<|qaa<|wp_block<|sg<|mz E rfl rfl λa E=>lw E (qbk rfl rfl) λa E=>lv E ok (qh0 Tryz.underlying3 Tryz.underlying117 rfl) λa E=>bd hF λq14 e15 hF=>lw E (qoQ rfl rfl e15) λa E=>lv E ok (qh0 Tryz.underlying117 Tryz.underlying3 rfl) λa E=>aw E rfl λa E=>wp_seq<|bd hF λo16 hJ hF=>qaO (Q':=λe a w=>e=.normal∧Ok u m0 ([]::Mm0::S) w∧Env 220 a [(0,vm0),(1,vi a_1),(4,(Value.func (.func 32) #[] #[])),(10,vi v9),(11,vi v10),(12,(vi (IntKind.wrap .i64 q14))),(50,vb o16)]) ?_ ?_
     rotate_left
     ·intro e a w hO
      obtain⟨rfl,ok,E⟩:=hO
      refine qaa<|cg E rfl hF (λc73 hF=>?_) λc73 hF=>?_
      ·refine qab<|mv E rfl λa E=>av E rfl λa E=>wpList_nil<|qal ?_
       cases hF
       exact qau ⟨ok,E.keep [0,1,4,10,11],r11,(InR.wrap _ _)⟩
      refine qab<|mv E rfl λa E=>lw E (qbk rfl rfl) λa E=>av E rfl λa E=>wpList_nil<|qal ?_
      cases hF
      exact qau ⟨ok,E.keep [0,1,4,10,11],(InR.wrap _ _),r12⟩
     have hF:=hJ
     obtain⟨x17,e18,hF⟩:=bnd hF
     obtain⟨x31,e32,hF⟩:=bnd hF
     obtain⟨r45,e46,hF⟩:=bnd hF
     obtain rfl:=sj hF
     refine qbl [] (Cls u m0 ([]::Mm0::[])) (Cls u m0 ([]::Mm0::[])) (by kernel_rfl) ?_
     intro w hw
     replace ok:=qbA ok hw
     clear hw
     refine qaq (cl1 (cq le_m0 ok [0,1] rfl) (cq le_m0 ok [0,1] rfl)) λhT=>kt 0 E rfl hT (qad rfl) λa E=>kt 1 E rfl hT (qad rfl) λa E=>kt 2 E rfl hT (qad rfl) λa E=>?_
     obtain⟨b48,o49,hp50,yy51⟩:=qb2 qds hm0 e18 (P:=Tryz.prog) (X:=.tmp 41) (I:=.tmp 42) (kd:=.i64) (qaD E rfl) (qaD E rfl)
     refine kt 3 E rfl hT (yy51 _ _) λa E=>?_
     obtain⟨es52,hl53,rr54,hh55⟩:=qcF hm0 e18 hp50 (by decide)
     obtain⟨rfl,r56,r57,l58,l59⟩:=rr54
     refine kt 4 E rfl hT (qao (cs:=[vi x17.Index,vi x17.Similar,vs x17.Source,vs x17.Target]) qee rfl rfl (Holds.crow hh55 1 rfl)) λa E=>kt 5 E rfl hT (qad rfl) λa E=>kt 6 E rfl hT (qad rfl) λa E=>?_
     obtain⟨b60,o61,hp62,yy63⟩:=qb2 qds hm0 e32 (P:=Tryz.prog) (X:=.tmp 45) (I:=.tmp 46) (kd:=.i64) (qaD E rfl) (qaD E rfl)
     refine kt 7 E rfl hT (yy63 _ _) λa E=>?_
     obtain⟨es64,hl65,rr66,hh67⟩:=qcF hm0 e32 hp62 (by decide)
     obtain⟨rfl,r68,r69,l70,l71⟩:=rr66
     refine kt 8 E rfl hT (qao (cs:=[vi x31.Index,vi x31.Similar,vs x31.Source,vs x31.Target]) qee rfl rfl (Holds.crow hh67 1 rfl)) λa E=>qaU [9] (by kernel_rfl) rfl (qa1 ?_)
     ·refine wo rfl<|qhD E rfl qoL rfl (qeH N _ x17 ⟨rfl,r56,r57,l58,l59⟩ _ x31 ⟨rfl,r68,r69,l70,l71⟩ e46 hG ok) rfl rfl ?_
      rintro _ w ⟨⟨rfl,ok⟩,r72⟩
      refine⟨_,rfl,λa E=>?_⟩
      refine wn<|qaq (cl1 (cq le_m0 ok [0,1] rfl) (cq le_m0 ok [0,1] rfl)) λhT=>kt 10 E rfl hT (qaP rfl rfl) λa E=>qbv (by kernel_rfl) ?_
      exact⟨rfl,⟨ok,E.keep [0,1,4,10,11,12,50]⟩⟩
   intro e a w _ hO
   obtain⟨rfl,ok,E,r74⟩:=hO
   refine qbh<|qaa<|wp_seq<|sg<|mv E rfl λa E=>av E rfl λa E=>wn<|wp_block<|bd hF λo79 hL hF=>qbb _ (λ(s:Int×(List (Match))) a w=>∃ M81,Ok u m0 ([]::M81::S) w∧Env 220 a [(0,vm0),(10,vi o6),(13,vi s.1)]∧InR .i64 s.1∧ORow 33 4 qa7 m0 vm0 s.2 M81) (λ(b:((List (Match)))) e a w=>e=(.exit 2)∧∃ M180,Ok u m0 ([]::M180::S) w∧Env 220 a []∧ORow 33 4 qa7 m0 vm0 b M180) ?_ ?_ N _ a w hL ⟨Mm0,ok,E.keep [0,10,13],ra_1,hm0⟩
   rotate_left
   ·intro e a w _ hO
    obtain⟨rfl,M178,ok,E,h179⟩:=hO
    refine qbh<|qaa<|wp_ret<|qak ?_
    exact fin hF ⟨m0,M178,le_m0,ok,E.d,trivial,h179⟩
   rintro⟨v83,v84⟩ a w r ⟨M86,ok,E,r85,h87⟩ hF
   replace hF:qa0 (qap N) N o6 v83 v84=some r:=hF
   unfold qa0 at hF
   refine wp_seq<|sg<|mz E rfl rfl λa E=>lw E (qcP rfl rfl) λa E=>lw E (qaP rfl rfl) λa E=>wn<|cg E rfl hF (λc88 hF=>?_) λc88 hF=>?_
   ·refine wp_exit<|qaM ?_
    cases hF
    exact so (⟨rfl,⟨M86,ok,E.keep [],h87⟩⟩)
   refine wp_skip<|qaa<|wp_seq<|wp_block<|bd hF λo89 hJ hF=>qaO (Q':=λe a w=>e=.normal∧∃ M90,Ok u m0 ([]::M90::S) w∧Env 220 a [(0,vm0),(10,vi o6),(13,vi v83)]∧ORow 33 4 qa7 m0 vm0 o89 M90) ?_ ?_
   rotate_left
   ·intro e a w hO
    obtain⟨rfl,M176,ok,E,h177⟩:=hO
    refine qal<|qaa<|qab<|mv E rfl λa E=>lw E (qaH rfl rfl (InR.inc r85 (InR.wrap _ _) c88)) λa E=>av E rfl λa E=>wpList_nil ?_
    cases hF
    exact qau ⟨M176,ok,E.keep [0,10,13],(InR.inc r85 (InR.wrap _ _) c88),h177⟩
   have hF:=hJ
   obtain⟨x92,e93,hF⟩:=bnd hF
   obtain⟨x106,e107,hF⟩:=bnd hF
   obtain⟨x120,e121,hF⟩:=bnd hF
   obtain⟨l126,e127,hF⟩:=bnd hF
   obtain⟨x130,e131,hF⟩:=bnd hF
   obtain⟨l136,e137,hF⟩:=bnd hF
   obtain rfl:=sj hF
   refine qbl [9,13] (Cls u m0 ([]::M86::[])) (Cls u m0 ([])) (by kernel_rfl) ?_
   intro w hw
   replace ok:=qbA ok hw
   clear hw
   refine qaq (cl1 (cq le_m0 ok [0,1] rfl) (cq le_m0 ok [] rfl)) λhT=>kt 0 E rfl hT (qad rfl) λa E=>kt 1 E rfl hT (qad rfl) λa E=>kt 2 E rfl hT (qad rfl) λa E=>kt 3 E rfl hT (qad rfl) λa E=>kt 4 E rfl hT (qaH rfl rfl (InR.inc r85 (InR.wrap _ _) c88)) λa E=>kt 5 E rfl hT (qad rfl) λa E=>kt 6 E rfl hT (qad rfl) λa E=>kt 7 E rfl hT (qaH rfl rfl (InR.inc r85 (InR.wrap _ _) c88)) λa E=>?_
   obtain⟨b140,o141,hp142,yy143⟩:=qb2 qds h87 e93 (P:=Tryz.prog) (X:=.tmp 66) (I:=.tmp 68) (kd:=.i64) (qaD E rfl) (qaD E rfl)
   refine kt 8 E rfl hT (yy143 _ _) λa E=>?_
   obtain⟨es144,hl145,rr146,hh147⟩:=qcF h87 e93 hp142 (by decide)
   obtain⟨rfl,r148,r149,l150,l151⟩:=rr146
   refine qdg 9 E rfl (by kernel_rfl) nP hT (qao (cs:=[vi x92.Index,vi x92.Similar,vs x92.Source,vs x92.Target]) qee rfl rfl (Holds.crow hh147 1 rfl)) rfl rfl λa E=>kt 10 E rfl hT (qad rfl) λa E=>kt 11 E rfl hT (qad rfl) λa E=>?_
   obtain⟨b152,o153,hp154,yy155⟩:=qb2 qds h87 e107 (P:=Tryz.prog) (X:=.tmp 71) (I:=.tmp 72) (kd:=.i64) (qaD E rfl) (qaD E rfl)
   refine kt 12 E rfl hT (yy155 _ _) λa E=>?_
   obtain⟨es156,hl157,rr158,hh159⟩:=qcF h87 e107 hp154 (by decide)
   obtain⟨rfl,r160,r161,l162,l163⟩:=rr158
   refine qdg 13 E rfl (by kernel_rfl) nP hT (qao (cs:=[vi x106.Index,vi x106.Similar,vs x106.Source,vs x106.Target]) qee rfl rfl (Holds.crow hh159 1 rfl)) rfl rfl λa E=>?_
   obtain⟨b164,o165,hp166,yy167⟩:=qb2 qds h87 e121 (P:=Tryz.prog) (X:=.tmp 61) (I:=.tmp 62) (kd:=.i64) (qaD E rfl) (qaD E rfl)
   refine kt 14 E rfl hT (yy167 _ _) λa E=>qaU [15] (by kernel_rfl) rfl (qa1 ?_)
   ·refine wo rfl<|qed (R:=qa7) E ok 1 rfl h87 e121 hp166 rfl rfl qgp rfl rfl rfl ⟨rfl,rfl,rfl,rfl,trivial⟩ ⟨rfl,r148,r149,l150,l151⟩ e127 rfl λM168 w ok h169=>wn<|qaq (cl2 (by kernel_rfl) (cq le_m0 ok [] rfl)) λhT=>?_
    obtain⟨b170,o171,hp172,yy173⟩:=qb2 qds h169 e131 (P:=Tryz.prog) (X:=.tmp 63) (I:=.tmp 65) (kd:=.i64) (qaD E rfl) (qaD E rfl)
    refine kt 16 E rfl hT (yy173 _ _) λa E=>qaU [17] (by kernel_rfl) rfl (qa1 ?_)
    ·refine wo rfl<|qed (R:=qa7) E ok 1 rfl h169 e131 hp172 rfl rfl qgp rfl rfl rfl ⟨rfl,rfl,rfl,rfl,trivial⟩ ⟨rfl,r160,r161,l162,l163⟩ e137 rfl λM174 w ok h175=>wn<|qaq (cl2 (by kernel_rfl) (cq le_m0 ok [] rfl)) λhT=>qbv (by kernel_rfl) ?_
     exact⟨rfl,⟨M174,ok,E.keep [0,10,13],h175⟩⟩
 refine wp_skip<|qaa<|wp_seq<|sg<|mz E rfl rfl λa E=>lw E (qcP rfl rfl) λa E=>lw E (qaz rfl rfl) λa E=>wn<|cf E rfl hF (λc183 hF=>?_) λc183 hF=>?_
 ·as_aux_lemma=>
   refine sg<|mv E rfl λa E=>aw E rfl λa E=>sg<|mv E rfl λa E=>aw E rfl λa E=>wp_seq<|wp_block<|bd hF λo186 hL hF=>qbb _ (λ(s:Int×Int) a w=>Ok u m0 ([]::Mm0::S) w∧Env 220 a [(0,vm0),(2,vi m_2),(4,(Value.func (.func 32) #[] #[])),(14,vi s.1),(15,vi s.2)]∧InR .i64 s.1∧InR .i64 s.2) (λ(b:Int) e a w=>e=(.exit 4)∧Ok u m0 ([]::Mm0::S) w∧Env 220 a [(0,vm0),(2,vi m_2),(14,vi b)]∧InR .i64 b) ?_ ?_ N _ a w hL ⟨ok,E.keep [0,2,4,14,15],ra_1,rm_2⟩
   ·as_aux_lemma=>
     rintro⟨v189,v190⟩ a w r ⟨ok,E,r191,r192⟩ hF
     replace hF:qaW (qap N) N m_2 x0 v189 v190=some r:=hF
     unfold qaW at hF
     refine wp_seq<|sg<|mz E rfl rfl λa E=>lw E (qaP rfl rfl) λa E=>wn<|cg E rfl hF (λc193 hF=>?_) λc193 hF=>?_
     ·refine wp_exit<|qaM ?_
      cases hF
      exact so (⟨rfl,⟨ok,E.keep [0,2,14],r191⟩⟩)
     refine wp_skip<|qaa<|wp_block<|sg<|mz E rfl rfl λa E=>lw E (qbk rfl rfl) λa E=>lv E ok (qh0 Tryz.underlying3 Tryz.underlying117 rfl) λa E=>bd hF λq194 e195 hF=>lw E (qoQ rfl rfl e195) λa E=>lv E ok (qh0 Tryz.underlying117 Tryz.underlying3 rfl) λa E=>aw E rfl λa E=>wp_seq<|bd hF λo196 hJ hF=>qaO (Q':=λe a w=>e=.normal∧Ok u m0 ([]::Mm0::S) w∧Env 220 a [(0,vm0),(2,vi m_2),(4,(Value.func (.func 32) #[] #[])),(14,vi v189),(15,vi v190),(16,(vi (IntKind.wrap .i64 q194))),(103,vb o196)]) ?_ ?_
     rotate_left
     ·intro e a w hO
      obtain⟨rfl,ok,E⟩:=hO
      refine qaa<|cg E rfl hF (λc253 hF=>?_) λc253 hF=>?_
      ·refine qab<|mv E rfl λa E=>av E rfl λa E=>wpList_nil<|qal ?_
       cases hF
       exact qau ⟨ok,E.keep [0,2,4,14,15],r191,(InR.wrap _ _)⟩
      refine qab<|mv E rfl λa E=>lw E (qbk rfl rfl) λa E=>av E rfl λa E=>wpList_nil<|qal ?_
      cases hF
      exact qau ⟨ok,E.keep [0,2,4,14,15],(InR.wrap _ _),r192⟩
     have hF:=hJ
     obtain⟨x197,e198,hF⟩:=bnd hF
     obtain⟨x211,e212,hF⟩:=bnd hF
     obtain⟨r225,e226,hF⟩:=bnd hF
     obtain rfl:=sj hF
     refine qbl [] (Cls u m0 ([]::Mm0::[])) (Cls u m0 ([]::Mm0::[])) (by kernel_rfl) ?_
     intro w hw
     replace ok:=qbA ok hw
     clear hw
     refine qaq (cl1 (cq le_m0 ok [0,1] rfl) (cq le_m0 ok [0,1] rfl)) λhT=>kt 0 E rfl hT (qad rfl) λa E=>kt 1 E rfl hT (qad rfl) λa E=>kt 2 E rfl hT (qad rfl) λa E=>?_
     obtain⟨b228,o229,hp230,yy231⟩:=qb2 qds hm0 e198 (P:=Tryz.prog) (X:=.tmp 93) (I:=.tmp 94) (kd:=.i64) (qaD E rfl) (qaD E rfl)
     refine kt 3 E rfl hT (yy231 _ _) λa E=>?_
     obtain⟨es232,hl233,rr234,hh235⟩:=qcF hm0 e198 hp230 (by decide)
     obtain⟨rfl,r236,r237,l238,l239⟩:=rr234
     refine kt 4 E rfl hT (qao (cs:=[vi x197.Index,vi x197.Similar,vs x197.Source,vs x197.Target]) qee rfl rfl (Holds.crow hh235 1 rfl)) λa E=>kt 5 E rfl hT (qad rfl) λa E=>kt 6 E rfl hT (qad rfl) λa E=>?_
     obtain⟨b240,o241,hp242,yy243⟩:=qb2 qds hm0 e212 (P:=Tryz.prog) (X:=.tmp 97) (I:=.tmp 98) (kd:=.i64) (qaD E rfl) (qaD E rfl)
     refine kt 7 E rfl hT (yy243 _ _) λa E=>?_
     obtain⟨es244,hl245,rr246,hh247⟩:=qcF hm0 e212 hp242 (by decide)
     obtain⟨rfl,r248,r249,l250,l251⟩:=rr246
     refine kt 8 E rfl hT (qao (cs:=[vi x211.Index,vi x211.Similar,vs x211.Source,vs x211.Target]) qee rfl rfl (Holds.crow hh247 1 rfl)) λa E=>qaU [9] (by kernel_rfl) rfl (qa1 ?_)
     ·refine wo rfl<|qhD E rfl qoL rfl (qeH N _ x197 ⟨rfl,r236,r237,l238,l239⟩ _ x211 ⟨rfl,r248,r249,l250,l251⟩ e226 hG ok) rfl rfl ?_
      rintro _ w ⟨⟨rfl,ok⟩,r252⟩
      refine⟨_,rfl,λa E=>?_⟩
      refine wn<|qaq (cl1 (cq le_m0 ok [0,1] rfl) (cq le_m0 ok [0,1] rfl)) λhT=>kt 10 E rfl hT (qaP rfl rfl) λa E=>kt 11 E rfl hT (qa9 rfl) λa E=>qbv (by kernel_rfl) ?_
      exact⟨rfl,⟨ok,E.keep [0,2,4,14,15,16,103]⟩⟩
   intro e a w _ hO
   obtain⟨rfl,ok,E,r254⟩:=hO
   refine qbh<|qaa<|wp_seq<|sg<|mv E rfl λa E=>av E rfl λa E=>wn<|wp_block<|bd hF λo259 hL hF=>qbb _ (λ(s:Int×(List (Match))) a w=>∃ M261,Ok u m0 ([]::M261::S) w∧Env 220 a [(0,vm0),(14,vi o186),(17,vi s.1)]∧InR .i64 s.1∧ORow 33 4 qa7 m0 vm0 s.2 M261) (λ(b:((List (Match)))) e a w=>e=(.exit 6)∧∃ M360,Ok u m0 ([]::M360::S) w∧Env 220 a []∧ORow 33 4 qa7 m0 vm0 b M360) ?_ ?_ N _ a w hL ⟨Mm0,ok,E.keep [0,14,17],rm_2,hm0⟩
   rotate_left
   ·intro e a w _ hO
    obtain⟨rfl,M358,ok,E,h359⟩:=hO
    refine qbh<|qaa<|wp_ret<|qak ?_
    exact fin hF ⟨m0,M358,le_m0,ok,E.d,trivial,h359⟩
   rintro⟨v263,v264⟩ a w r ⟨M266,ok,E,r265,h267⟩ hF
   replace hF:qaX (qap N) N o186 v263 v264=some r:=hF
   unfold qaX at hF
   refine wp_seq<|sg<|mz E rfl rfl λa E=>lw E (qcv rfl rfl) λa E=>wn<|cg E rfl hF (λc268 hF=>?_) λc268 hF=>?_
   ·refine wp_exit<|qaM ?_
    cases hF
    exact so (⟨rfl,⟨M266,ok,E.keep [],h267⟩⟩)
   refine wp_skip<|qaa<|wp_seq<|wp_block<|bd hF λo269 hJ hF=>qaO (Q':=λe a w=>e=.normal∧∃ M270,Ok u m0 ([]::M270::S) w∧Env 220 a [(0,vm0),(14,vi o186),(17,vi v263)]∧ORow 33 4 qa7 m0 vm0 o269 M270) ?_ ?_
   rotate_left
   ·intro e a w hO
    obtain⟨rfl,M356,ok,E,h357⟩:=hO
    refine qal<|qaa<|qab<|mv E rfl λa E=>lw E (qlW rfl rfl (InR.dec r265 r254 c268)) λa E=>av E rfl λa E=>wpList_nil ?_
    cases hF
    exact qau ⟨M356,ok,E.keep [0,14,17],(InR.dec r265 r254 c268),h357⟩
   have hF:=hJ
   obtain⟨x272,e273,hF⟩:=bnd hF
   obtain⟨x286,e287,hF⟩:=bnd hF
   obtain⟨x300,e301,hF⟩:=bnd hF
   obtain⟨l306,e307,hF⟩:=bnd hF
   obtain⟨x310,e311,hF⟩:=bnd hF
   obtain⟨l316,e317,hF⟩:=bnd hF
   obtain rfl:=sj hF
   refine qbl [9,13] (Cls u m0 ([]::M266::[])) (Cls u m0 ([])) (by kernel_rfl) ?_
   intro w hw
   replace ok:=qbA ok hw
   clear hw
   refine qaq (cl1 (cq le_m0 ok [0,1] rfl) (cq le_m0 ok [] rfl)) λhT=>kt 0 E rfl hT (qad rfl) λa E=>kt 1 E rfl hT (qad rfl) λa E=>kt 2 E rfl hT (qad rfl) λa E=>kt 3 E rfl hT (qad rfl) λa E=>kt 4 E rfl hT (qlW rfl rfl (InR.dec r265 r254 c268)) λa E=>kt 5 E rfl hT (qad rfl) λa E=>kt 6 E rfl hT (qad rfl) λa E=>kt 7 E rfl hT (qlW rfl rfl (InR.dec r265 r254 c268)) λa E=>?_
   obtain⟨b320,o321,hp322,yy323⟩:=qb2 qds h267 e273 (P:=Tryz.prog) (X:=.tmp 118) (I:=.tmp 120) (kd:=.i64) (qaD E rfl) (qaD E rfl)
   refine kt 8 E rfl hT (yy323 _ _) λa E=>?_
   obtain⟨es324,hl325,rr326,hh327⟩:=qcF h267 e273 hp322 (by decide)
   obtain⟨rfl,r328,r329,l330,l331⟩:=rr326
   refine qdg 9 E rfl (by kernel_rfl) nP hT (qao (cs:=[vi x272.Index,vi x272.Similar,vs x272.Source,vs x272.Target]) qee rfl rfl (Holds.crow hh327 1 rfl)) rfl rfl λa E=>kt 10 E rfl hT (qad rfl) λa E=>kt 11 E rfl hT (qad rfl) λa E=>?_
   obtain⟨b332,o333,hp334,yy335⟩:=qb2 qds h267 e287 (P:=Tryz.prog) (X:=.tmp 123) (I:=.tmp 124) (kd:=.i64) (qaD E rfl) (qaD E rfl)
   refine kt 12 E rfl hT (yy335 _ _) λa E=>?_
   obtain⟨es336,hl337,rr338,hh339⟩:=qcF h267 e287 hp334 (by decide)
   obtain⟨rfl,r340,r341,l342,l343⟩:=rr338
   refine qdg 13 E rfl (by kernel_rfl) nP hT (qao (cs:=[vi x286.Index,vi x286.Similar,vs x286.Source,vs x286.Target]) qee rfl rfl (Holds.crow hh339 1 rfl)) rfl rfl λa E=>?_
   obtain⟨b344,o345,hp346,yy347⟩:=qb2 qds h267 e301 (P:=Tryz.prog) (X:=.tmp 113) (I:=.tmp 114) (kd:=.i64) (qaD E rfl) (qaD E rfl)
   refine kt 14 E rfl hT (yy347 _ _) λa E=>qaU [15] (by kernel_rfl) rfl (qa1 ?_)
   ·refine wo rfl<|qed (R:=qa7) E ok 1 rfl h267 e301 hp346 rfl rfl qgp rfl rfl rfl ⟨rfl,rfl,rfl,rfl,trivial⟩ ⟨rfl,r328,r329,l330,l331⟩ e307 rfl λM348 w ok h349=>wn<|qaq (cl2 (by kernel_rfl) (cq le_m0 ok [] rfl)) λhT=>?_
    obtain⟨b350,o351,hp352,yy353⟩:=qb2 qds h349 e311 (P:=Tryz.prog) (X:=.tmp 115) (I:=.tmp 117) (kd:=.i64) (qaD E rfl) (qaD E rfl)
    refine kt 16 E rfl hT (yy353 _ _) λa E=>qaU [17] (by kernel_rfl) rfl (qa1 ?_)
    ·refine wo rfl<|qed (R:=qa7) E ok 1 rfl h349 e311 hp352 rfl rfl qgp rfl rfl rfl ⟨rfl,rfl,rfl,rfl,trivial⟩ ⟨rfl,r340,r341,l342,l343⟩ e317 rfl λM354 w ok h355=>wn<|qaq (cl2 (by kernel_rfl) (cq le_m0 ok [] rfl)) λhT=>qbv (by kernel_rfl) ?_
     exact⟨rfl,⟨M354,ok,E.keep [0,14,17],h355⟩⟩
 refine wp_skip<|qaa<|sg<|mz E rfl rfl λa E=>lw E (qbk rfl rfl) λa E=>lv E ok (qh0 Tryz.underlying3 Tryz.underlying117 rfl) λa E=>bd hF λq363 e364 hF=>lw E (qoQ rfl rfl e364) λa E=>lv E ok (qh0 Tryz.underlying117 Tryz.underlying3 rfl) λa E=>aw E rfl λa E=>sg<|mv E rfl λa E=>?_
 refine mv E rfl λa E=>lw E (qbk rfl rfl) λa E=>aw E rfl λa E=>sg<|av E rfl λa E=>aw E rfl λa E=>wp_seq<|sg<|mz E rfl rfl λa E=>lw E (qcv rfl rfl) λa E=>wn<|bd hF λo365 hJ hF=>qaO (Q':=λe a w=>e=.normal∧Ok u m0 ([]::Mm0::S) w∧Env 220 a [(0,vm0),(1,vi a_1),(2,vi m_2),(3,vi b_3),(4,(Value.func (.func 32) #[] #[])),(18,(vi (IntKind.wrap .i64 q363))),(19,(vi (IntKind.wrap .i64 ((IntKind.wrap .i64 q363)+m_2)))),(20,vi o365.1),(21,vi o365.2)]∧InR .i64 o365.1∧InR .i64 o365.2) ?_ ?_
 ·have hF:=hJ
  refine cg E rfl hF (λc368 hF=>?_) λc368 hF=>?_
  ·refine sg<|mv E rfl λa E=>aw E rfl λa E=>qab<|mv E rfl λa E=>av E rfl λa E=>wpList_nil ?_
   cases hF
   exact⟨rfl,⟨ok,E.keep [0,1,2,3,4,18,19,20,21],ra_1,rm_2⟩⟩
  refine sg<|mz E rfl rfl λa E=>lw E (qcP rfl rfl) λa E=>aw E rfl λa E=>qab<|mv E rfl λa E=>av E rfl λa E=>wpList_nil ?_
  cases hF
  exact⟨rfl,⟨ok,E.keep [0,1,2,3,4,18,19,20,21],(InR.wrap _ _),(InR.wrap _ _)⟩⟩
 intro e a w hO
 obtain⟨rfl,ok,E,r369,r370⟩:=hO
 refine qaa<|sg<|mv E rfl λa E=>lw E (qcP rfl rfl) λa E=>aw E rfl λa E=>wp_seq<|wp_block<|bd hF λo373 hL hF=>qbb _ (λ(s:Int×Int) a w=>Ok u m0 ([]::Mm0::S) w∧Env 220 a [(0,vm0),(1,vi a_1),(2,vi m_2),(3,vi b_3),(4,(Value.func (.func 32) #[] #[])),(18,(vi (IntKind.wrap .i64 q363))),(19,(vi (IntKind.wrap .i64 ((IntKind.wrap .i64 q363)+m_2)))),(20,vi s.1),(21,vi s.2),(22,(vi (IntKind.wrap .i64 ((IntKind.wrap .i64 ((IntKind.wrap .i64 q363)+m_2))-1))))]∧InR .i64 s.1∧InR .i64 s.2) (λ(b:Int) e a w=>e=(.exit 8)∧Ok u m0 ([]::Mm0::S) w∧Env 220 a [(0,vm0),(1,vi a_1),(2,vi m_2),(3,vi b_3),(4,(Value.func (.func 32) #[] #[])),(18,(vi (IntKind.wrap .i64 q363))),(19,(vi (IntKind.wrap .i64 ((IntKind.wrap .i64 q363)+m_2)))),(20,vi b)]∧InR .i64 b) ?_ ?_ N _ a w hL ⟨ok,E.keep [0,1,2,3,4,18,19,20,21,22],r369,r370⟩
 ·as_aux_lemma=>
   rintro⟨v376,v377⟩ a w r ⟨ok,E,r378,r379⟩ hF
   replace hF:qaY (qap N) N m_2 x0 q363 v376 v377=some r:=hF
   unfold qaY at hF
   refine wp_seq<|sg<|mz E rfl rfl λa E=>lw E (qaP rfl rfl) λa E=>wn<|cg E rfl hF (λc380 hF=>?_) λc380 hF=>?_
   ·refine wp_exit<|qaM ?_
    cases hF
    exact so (⟨rfl,⟨ok,E.keep [0,1,2,3,4,18,19,20],r378⟩⟩)
   refine wp_skip<|qaa<|wp_block<|sg<|mz E rfl rfl λa E=>lw E (qbk rfl rfl) λa E=>lv E ok (qh0 Tryz.underlying3 Tryz.underlying117 rfl) λa E=>bd hF λq381 e382 hF=>lw E (qoQ rfl rfl e382) λa E=>lv E ok (qh0 Tryz.underlying117 Tryz.underlying3 rfl) λa E=>aw E rfl λa E=>wp_seq<|bd hF λo383 hJ hF=>qaO (Q':=λe a w=>e=.normal∧Ok u m0 ([]::Mm0::S) w∧Env 220 a [(0,vm0),(1,vi a_1),(2,vi m_2),(3,vi b_3),(4,(Value.func (.func 32) #[] #[])),(18,(vi (IntKind.wrap .i64 q363))),(19,(vi (IntKind.wrap .i64 ((IntKind.wrap .i64 q363)+m_2)))),(20,vi v376),(21,vi v377),(22,(vi (IntKind.wrap .i64 ((IntKind.wrap .i64 ((IntKind.wrap .i64 q363)+m_2))-1)))),(23,(vi (IntKind.wrap .i64 q381))),(171,vb o383)]) ?_ ?_
   rotate_left
   ·intro e a w hO
    obtain⟨rfl,ok,E⟩:=hO
    refine qaa<|cg E rfl hF (λc440 hF=>?_) λc440 hF=>?_
    ·refine qab<|mv E rfl λa E=>av E rfl λa E=>wpList_nil<|qal ?_
     cases hF
     exact qau ⟨ok,E.keep [0,1,2,3,4,18,19,20,21,22],r378,(InR.wrap _ _)⟩
    refine qab<|mv E rfl λa E=>lw E (qbk rfl rfl) λa E=>av E rfl λa E=>wpList_nil<|qal ?_
    cases hF
    exact qau ⟨ok,E.keep [0,1,2,3,4,18,19,20,21,22],(InR.wrap _ _),r379⟩
   have hF:=hJ
   obtain⟨x384,e385,hF⟩:=bnd hF
   obtain⟨x398,e399,hF⟩:=bnd hF
   obtain⟨r412,e413,hF⟩:=bnd hF
   obtain rfl:=sj hF
   refine qbl [] (Cls u m0 ([]::Mm0::[])) (Cls u m0 ([]::Mm0::[])) (by kernel_rfl) ?_
   intro w hw
   replace ok:=qbA ok hw
   clear hw
   refine qaq (cl1 (cq le_m0 ok [0,1] rfl) (cq le_m0 ok [0,1] rfl)) λhT=>kt 0 E rfl hT (qad rfl) λa E=>kt 1 E rfl hT (qad rfl) λa E=>kt 2 E rfl hT (qad rfl) λa E=>kt 3 E rfl hT (qad rfl) λa E=>kt 4 E rfl hT (qcP rfl rfl) λa E=>?_
   obtain⟨b415,o416,hp417,yy418⟩:=qb2 qds hm0 e385 (P:=Tryz.prog) (X:=.tmp 159) (I:=.tmp 162) (kd:=.i64) (qaD E rfl) (qaD E rfl)
   refine kt 5 E rfl hT (yy418 _ _) λa E=>?_
   obtain⟨es419,hl420,rr421,hh422⟩:=qcF hm0 e385 hp417 (by decide)
   obtain⟨rfl,r423,r424,l425,l426⟩:=rr421
   refine kt 6 E rfl hT (qao (cs:=[vi x384.Index,vi x384.Similar,vs x384.Source,vs x384.Target]) qee rfl rfl (Holds.crow hh422 1 rfl)) λa E=>kt 7 E rfl hT (qad rfl) λa E=>kt 8 E rfl hT (qad rfl) λa E=>?_
   obtain⟨b427,o428,hp429,yy430⟩:=qb2 qds hm0 e399 (P:=Tryz.prog) (X:=.tmp 165) (I:=.tmp 166) (kd:=.i64) (qaD E rfl) (qaD E rfl)
   refine kt 9 E rfl hT (yy430 _ _) λa E=>?_
   obtain⟨es431,hl432,rr433,hh434⟩:=qcF hm0 e399 hp429 (by decide)
   obtain⟨rfl,r435,r436,l437,l438⟩:=rr433
   refine kt 10 E rfl hT (qao (cs:=[vi x398.Index,vi x398.Similar,vs x398.Source,vs x398.Target]) qee rfl rfl (Holds.crow hh434 1 rfl)) λa E=>qaU [11] (by kernel_rfl) rfl (qa1 ?_)
   ·refine wo rfl<|qhD E rfl qoL rfl (qeH N _ x384 ⟨rfl,r423,r424,l425,l426⟩ _ x398 ⟨rfl,r435,r436,l437,l438⟩ e413 hG ok) rfl rfl ?_
    rintro _ w ⟨⟨rfl,ok⟩,r439⟩
    refine⟨_,rfl,λa E=>?_⟩
    refine wn<|qaq (cl1 (cq le_m0 ok [0,1] rfl) (cq le_m0 ok [0,1] rfl)) λhT=>kt 12 E rfl hT (qaP rfl rfl) λa E=>kt 13 E rfl hT (qa9 rfl) λa E=>qbv (by kernel_rfl) ?_
    exact⟨rfl,⟨ok,E.keep [0,1,2,3,4,18,19,20,21,22,23,171]⟩⟩
 intro e a w _ hO
 obtain⟨rfl,ok,E,r441⟩:=hO
 refine qbh<|qaa<|sg<|mz E rfl rfl λa E=>lw E (qcP rfl rfl) λa E=>av E rfl λa E=>wn<|wp_seq<|sg<|mz E rfl rfl λa E=>lw E (qaP rfl rfl) λa E=>mv E rfl λa E=>bw E 181 hF (λc442 hF E=>?_) λc442 hF E=>?_
 ·as_aux_lemma=>
   refine lsq E λa E=>ls E λa E=>pf E rfl rfl λa E=>wn<|c_if E rfl (λh=>by cases h) (λ_=>?_)
   refine wp_skip<|qaa<|wp_seq<|sg<|mz E rfl rfl λa E=>lw E (qaP rfl rfl) λa E=>mv E rfl λa E=>bw E 195 hF (λc484 hF E=>?_) λc484 hF E=>?_
   ·refine lsq E λa E=>ls E λa E=>pf E rfl rfl λa E=>wn<|c_if E rfl (λh=>by cases h) (λ_=>?_)
    refine wp_skip<|qaa<|sg<|mz E rfl rfl λa E=>lw E (qaP rfl rfl) λa E=>mv E rfl λa E=>bw E 209 hF (λc505 hF E=>?_) λc505 hF E=>?_
    ·refine lsq E λa E=>ls E λa E=>pf E rfl rfl λa E=>wn<|c_if E rfl (λh=>by cases h) (λ_=>?_)
     refine wp_skip ?_
     exact fin hF ⟨m0,Mm0,le_m0,ok,E.d,trivial,hm0⟩
    refine mz E rfl rfl λa E=>lw E (qaP rfl rfl) λa E=>pt E rfl rfl λa E=>wn<|cg E rfl hF (λc506 hF=>?_) λc506 hF=>?_
    ·refine wp_skip ?_
     exact fin hF ⟨m0,Mm0,le_m0,ok,E.d,trivial,hm0⟩
    refine qab<|mz E rfl rfl λa E=>mz E rfl rfl λa E=>mv E rfl λa E=>bd hF λr507 e508 hF=>qae E qjs rfl (ih_slices_symMergeCmpFunc_memory_Match__32 (IntKind.wrap .i64 q363) (InR.wrap _ _) (IntKind.wrap .i64 ((IntKind.wrap .i64 ((IntKind.wrap .i64 q363)+m_2))-o373)) (InR.wrap _ _) b_3 rb_3 x0 hm0 e508 hG ok) rfl rfl ?_
    rintro _ w ⟨m509,M510,rfl,hle,ok,h511⟩
    have le_m0:=le_m0.trans hle
    refine⟨_,rfl,λa E=>?_⟩
    refine wpList_nil ?_
    exact fin hF ⟨m509,M510,le_m0,ok,E.d,trivial,h511⟩
   refine mz E rfl rfl λa E=>lw E (qaP rfl rfl) λa E=>pt E rfl rfl λa E=>wn<|bd hF λo485 hJ hF=>qaO (Q':=λe a w=>e=.normal∧∃ m486 M487,m0.le m486∧Ok u m486 ([]::M487::S) w∧Env 220 a [(0,vm0),(3,vi b_3),(4,(Value.func (.func 32) #[] #[])),(18,(vi (IntKind.wrap .i64 q363))),(24,(vi (IntKind.wrap .i64 ((IntKind.wrap .i64 ((IntKind.wrap .i64 q363)+m_2))-o373))))]∧ORow 33 4 qa7 m486 vm0 o485 M487) ?_ ?_
   ·have hF:=hJ
    refine cg E rfl hF (λc489 hF=>?_) λc489 hF=>?_
    ·refine wp_skip ?_
     cases hF
     exact⟨rfl,⟨m0,Mm0,le_m0,ok,E.keep [0,3,4,18,24],hm0⟩⟩
    refine qab<|mz E rfl rfl λa E=>mz E rfl rfl λa E=>mv E rfl λa E=>bd hF λr490 e491 hF=>qae E qjs rfl (ih_slices_symMergeCmpFunc_memory_Match__32 a_1 ra_1 o373 r441 (IntKind.wrap .i64 q363) (InR.wrap _ _) x0 hm0 e491 hG ok) rfl rfl ?_
    rintro _ w ⟨m492,M493,rfl,hle,ok,h494⟩
    have le_m0:=le_m0.trans hle
    refine⟨_,rfl,λa E=>?_⟩
    refine wpList_nil ?_
    cases hF
    exact⟨rfl,⟨m492,M493,le_m0,ok,E.keep [0,3,4,18,24],h494⟩⟩
   intro e a w hO
   obtain⟨rfl,m495,M496,hle,ok,E,h497⟩:=hO
   have le_m0:=le_m0.trans hle
   refine qaa<|sg<|mz E rfl rfl λa E=>lw E (qaP rfl rfl) λa E=>mv E rfl λa E=>bw E 209 hF (λc498 hF E=>?_) λc498 hF E=>?_
   ·refine lsq E λa E=>ls E λa E=>pf E rfl rfl λa E=>wn<|c_if E rfl (λh=>by cases h) (λ_=>?_)
    refine wp_skip ?_
    exact fin hF ⟨m495,M496,le_m0,ok,E.d,trivial,h497⟩
   refine mz E rfl rfl λa E=>lw E (qaP rfl rfl) λa E=>pt E rfl rfl λa E=>wn<|cg E rfl hF (λc499 hF=>?_) λc499 hF=>?_
   ·refine wp_skip ?_
    exact fin hF ⟨m495,M496,le_m0,ok,E.d,trivial,h497⟩
   refine qab<|mz E rfl rfl λa E=>mz E rfl rfl λa E=>mv E rfl λa E=>bd hF λr500 e501 hF=>qae E qjs rfl (ih_slices_symMergeCmpFunc_memory_Match__32 (IntKind.wrap .i64 q363) (InR.wrap _ _) (IntKind.wrap .i64 ((IntKind.wrap .i64 ((IntKind.wrap .i64 q363)+m_2))-o373)) (InR.wrap _ _) b_3 rb_3 o485 h497 e501 hG ok) rfl rfl ?_
   rintro _ w ⟨m502,M503,rfl,hle,ok,h504⟩
   have le_m0:=le_m0.trans hle
   refine⟨_,rfl,λa E=>?_⟩
   refine wpList_nil ?_
   exact fin hF ⟨m502,M503,le_m0,ok,E.d,trivial,h504⟩
 refine mz E rfl rfl λa E=>lw E (qaP rfl rfl) λa E=>pt E rfl rfl λa E=>wn<|bd hF λo443 hJ hF=>qaO (Q':=λe a w=>e=.normal∧∃ m444 M445,m0.le m444∧Ok u m444 ([]::M445::S) w∧Env 220 a [(0,vm0),(1,vi a_1),(3,vi b_3),(4,(Value.func (.func 32) #[] #[])),(18,(vi (IntKind.wrap .i64 q363))),(20,vi o373),(24,(vi (IntKind.wrap .i64 ((IntKind.wrap .i64 ((IntKind.wrap .i64 q363)+m_2))-o373))))]∧ORow 33 4 qa7 m444 vm0 o443 M445) ?_ ?_
 ·have hF:=hJ
  refine cg E rfl hF (λc447 hF=>?_) λc447 hF=>?_
  ·refine wp_skip ?_
   cases hF
   exact⟨rfl,⟨m0,Mm0,le_m0,ok,E.keep [0,1,3,4,18,20,24],hm0⟩⟩
  refine qab<|mz E rfl rfl λa E=>mz E rfl rfl λa E=>mv E rfl λa E=>bd hF λr448 e449 hF=>qae E qvp rfl (qgb N o373 r441 m_2 rm_2 (IntKind.wrap .i64 ((IntKind.wrap .i64 ((IntKind.wrap .i64 q363)+m_2))-o373)) (InR.wrap _ _) x0 hm0 e449 hG ok) rfl rfl ?_
  rintro _ w ⟨m450,M451,rfl,hle,ok,h452⟩
  have le_m0:=le_m0.trans hle
  refine⟨_,rfl,λa E=>?_⟩
  refine wpList_nil ?_
  cases hF
  exact⟨rfl,⟨m450,M451,le_m0,ok,E.keep [0,1,3,4,18,20,24],h452⟩⟩
 intro e a w hO
 obtain⟨rfl,m453,M454,hle,ok,E,h455⟩:=hO
 have le_m0:=le_m0.trans hle
 refine qaa<|wp_seq<|sg<|mz E rfl rfl λa E=>lw E (qaP rfl rfl) λa E=>mv E rfl λa E=>bw E 195 hF (λc456 hF E=>?_) λc456 hF E=>?_
 ·refine lsq E λa E=>ls E λa E=>pf E rfl rfl λa E=>wn<|c_if E rfl (λh=>by cases h) (λ_=>?_)
  refine wp_skip<|qaa<|sg<|mz E rfl rfl λa E=>lw E (qaP rfl rfl) λa E=>mv E rfl λa E=>bw E 209 hF (λc477 hF E=>?_) λc477 hF E=>?_
  ·refine lsq E λa E=>ls E λa E=>pf E rfl rfl λa E=>wn<|c_if E rfl (λh=>by cases h) (λ_=>?_)
   refine wp_skip ?_
   exact fin hF ⟨m453,M454,le_m0,ok,E.d,trivial,h455⟩
  refine mz E rfl rfl λa E=>lw E (qaP rfl rfl) λa E=>pt E rfl rfl λa E=>wn<|cg E rfl hF (λc478 hF=>?_) λc478 hF=>?_
  ·refine wp_skip ?_
   exact fin hF ⟨m453,M454,le_m0,ok,E.d,trivial,h455⟩
  refine qab<|mz E rfl rfl λa E=>mz E rfl rfl λa E=>mv E rfl λa E=>bd hF λr479 e480 hF=>qae E qjs rfl (ih_slices_symMergeCmpFunc_memory_Match__32 (IntKind.wrap .i64 q363) (InR.wrap _ _) (IntKind.wrap .i64 ((IntKind.wrap .i64 ((IntKind.wrap .i64 q363)+m_2))-o373)) (InR.wrap _ _) b_3 rb_3 o443 h455 e480 hG ok) rfl rfl ?_
  rintro _ w ⟨m481,M482,rfl,hle,ok,h483⟩
  have le_m0:=le_m0.trans hle
  refine⟨_,rfl,λa E=>?_⟩
  refine wpList_nil ?_
  exact fin hF ⟨m481,M482,le_m0,ok,E.d,trivial,h483⟩
 refine mz E rfl rfl λa E=>lw E (qaP rfl rfl) λa E=>pt E rfl rfl λa E=>wn<|bd hF λo457 hJ hF=>qaO (Q':=λe a w=>e=.normal∧∃ m458 M459,m453.le m458∧Ok u m458 ([]::M459::S) w∧Env 220 a [(0,vm0),(3,vi b_3),(4,(Value.func (.func 32) #[] #[])),(18,(vi (IntKind.wrap .i64 q363))),(24,(vi (IntKind.wrap .i64 ((IntKind.wrap .i64 ((IntKind.wrap .i64 q363)+m_2))-o373))))]∧ORow 33 4 qa7 m458 vm0 o457 M459) ?_ ?_
 ·have hF:=hJ
  have le_m453:=Mem.le.refl m453
  refine cg E rfl hF (λc461 hF=>?_) λc461 hF=>?_
  ·refine wp_skip ?_
   cases hF
   exact⟨rfl,⟨m453,M454,le_m453,ok,E.keep [0,3,4,18,24],h455⟩⟩
  refine qab<|mz E rfl rfl λa E=>mz E rfl rfl λa E=>mv E rfl λa E=>bd hF λr462 e463 hF=>qae E qjs rfl (ih_slices_symMergeCmpFunc_memory_Match__32 a_1 ra_1 o373 r441 (IntKind.wrap .i64 q363) (InR.wrap _ _) o443 h455 e463 hG ok) rfl rfl ?_
  rintro _ w ⟨m464,M465,rfl,hle,ok,h466⟩
  have le_m0:=le_m0.trans hle
  have le_m453:=le_m453.trans hle
  refine⟨_,rfl,λa E=>?_⟩
  refine wpList_nil ?_
  cases hF
  exact⟨rfl,⟨m464,M465,le_m453,ok,E.keep [0,3,4,18,24],h466⟩⟩
 intro e a w hO
 obtain⟨rfl,m467,M468,hle,ok,E,h469⟩:=hO
 have le_m0:=le_m0.trans hle
 refine qaa<|sg<|mz E rfl rfl λa E=>lw E (qaP rfl rfl) λa E=>mv E rfl λa E=>bw E 209 hF (λc470 hF E=>?_) λc470 hF E=>?_
 ·refine lsq E λa E=>ls E λa E=>pf E rfl rfl λa E=>wn<|c_if E rfl (λh=>by cases h) (λ_=>?_)
  refine wp_skip ?_
  exact fin hF ⟨m467,M468,le_m0,ok,E.d,trivial,h469⟩
 refine mz E rfl rfl λa E=>lw E (qaP rfl rfl) λa E=>pt E rfl rfl λa E=>wn<|cg E rfl hF (λc471 hF=>?_) λc471 hF=>?_
 ·refine wp_skip ?_
  exact fin hF ⟨m467,M468,le_m0,ok,E.d,trivial,h469⟩
 refine qab<|mz E rfl rfl λa E=>mz E rfl rfl λa E=>mv E rfl λa E=>bd hF λr472 e473 hF=>qae E qjs rfl (ih_slices_symMergeCmpFunc_memory_Match__32 (IntKind.wrap .i64 q363) (InR.wrap _ _) (IntKind.wrap .i64 ((IntKind.wrap .i64 ((IntKind.wrap .i64 q363)+m_2))-o373)) (InR.wrap _ _) b_3 rb_3 o457 h469 e473 hG ok) rfl rfl ?_
 rintro _ w ⟨m474,M475,rfl,hle,ok,h476⟩
 have le_m0:=le_m0.trans hle
 refine⟨_,rfl,λa E=>?_⟩
 refine wpList_nil ?_
 exact fin hF ⟨m474,M475,le_m0,ok,E.d,trivial,h476⟩
theorem qfF:qcg 0:=by
 intro u m0 S w a_1 ra_1 m_2 rm_2 b_3 rb_3 vm0 Mm0 x0 hm0 r hF hG ok
 replace hF:none=some r:=hF
 cases hF
theorem qfi(N:Nat):qcg N:=by
 induction N with
 | zero=>exact qfF
 | succ N h=>exact qfI N h
theorem qea{u:World}{m0:Mem}{S:Segs}{w:World}(N:Nat)(a_1:Int)(ra_1:InR .i64 a_1)(m_2:Int)(rm_2:InR .i64 m_2)(b_3:Int)(rb_3:InR .i64 b_3){vm0:Value}{Mm0:List (Nat×Obj)}(x0:List (Match))(hm0:ORow 33 4 qa7 m0 vm0 x0 Mm0){r:(List (Match))}(hF:qap N a_1 m_2 b_3 x0=some r)(hG:Glob u)(ok:Ok u m0 ([]::Mm0::S) w) :
 Calls Tryz.prog 83 [vm0,vi a_1,vi m_2,vi b_3,Value.func (.func 32) #[] #[]].toArray w λe w'=>∃ m1 M1,e=.returned (.tuple [].toArray)∧m0.le m1∧Ok u m1 ([]::M1::S) w'∧ORow 33 4 qa7 m1 vm0 r M1:=(qfi N) a_1 ra_1 m_2 rm_2 b_3 rb_3 x0 hm0 hF hG ok
end Go.Proofs.YtkhjeeakflefjaaGreatDoor
namespace Go.Proofs.YtkhjeeakflefjaaGreatDoor
open Go.X
def qbj(N:Nat)(n_1:Int)(a_15:Int)(b_16:Int)(x_17:List (Match)):Option ((Int×Int×(List (Match)))⊕(((List (Match))×Int))):=
 bif (decide (b_16≤n_1)) then
  (qaK N a_15 b_16 x_17).bind λr24=>
  some (.inl (b_16,(IntKind.wrap .i64 (b_16+20)),r24))
 else
  some (.inr (x_17,a_15))
def qbR(N:Nat)(n_1:Int)(blockSize_47:Int)(a_66:Int)(b_67:Int)(x_68:List (Match)):Option ((Int×Int×(List (Match)))⊕(((List (Match))×Int))):=
 bif (decide (b_67≤n_1)) then
  (qap N a_66 (IntKind.wrap .i64 (a_66+blockSize_47)) b_67 x_68).bind λr75=>
  some (.inl (b_67,(IntKind.wrap .i64 (b_67+(IntKind.wrap .i64 ((2:Int)*blockSize_47)))),r75))
 else
  some (.inr (x_68,a_66))
def qaR(N:Nat)(n_1:Int)(blockSize_47:Int)(x_48:List (Match)):Option ((Int×(List (Match)))⊕(((List (Match))))):=
 bif (decide (blockSize_47<n_1)) then
  (iter (λs=>qbR N n_1 blockSize_47 s.1 s.2.1 s.2.2) N (0,(IntKind.wrap .i64 ((2:Int)*blockSize_47)),x_48)).bind λo60=>
  bif (decide ((IntKind.wrap .i64 (o60.2+blockSize_47))<n_1)) then
   (qap N o60.2 (IntKind.wrap .i64 (o60.2+blockSize_47)) n_1 o60.1).bind λr85=>
   some (.inl ((IntKind.wrap .i64 (blockSize_47*2)),r85))
  else
   some (.inl ((IntKind.wrap .i64 (blockSize_47*2)),o60.1))
 else
  some (.inr x_48)
def qcy(N:Nat)(n_1:Int)(x0:List (Match)):Option (List (Match)):=
 (iter (λs=>qbj N n_1 s.1 s.2.1 s.2.2) N (0,20,x0)).bind λo9=>
 (qaK N o9.2 n_1 o9.1).bind λr33=>
 (iter (λs=>qaR N n_1 s.1 s.2) N (20,r33)).bind λo42=>
 some o42
def qbu(N:Nat)(x0:List (Match)):Option (List (Match)):=
 (qcy N (x0.length:Int) x0).bind λr3=>
 some r3
def qdb(N:Nat)(least_2:Int)(r13:(List (List UInt8)))(r20:(List (Int))×Memory)(out_43:List (Match))(x_44:Int):Option (((List (Match))×Int)⊕(((List (Match))))):=
 bif (decide (x_44<(r20.1.length:Int))) then
  (idx r20.1 x_44).bind λx50=>
  (idx r20.2.segments x50).bind λx60=>
  (qe8 N x60.words r13).bind λr75=>
  bif (decide (r75≥least_2)) then
   (app out_43 ([(Match.mk x50 r75 x60.source x60.target)]:List (Match))).bind λl82=>
   some (.inl (l82,(x_44+1)))
  else
   some (.inl (out_43,(x_44+1)))
 else
  some (.inr out_43)
def qfM(N:Nat)(text_1:List UInt8)(least_2:Int)(x0:Memory):Option ((List (Match))×Memory):=
 (qep N text_1).bind λr13=>
 bif (decide ((text_1.length:Int)>4000)) then
  some ([],x0)
 else
  bif (decide ((r13.length:Int)>400)) then
   some ([],x0)
  else
   (qdz N r13 least_2 x0).bind λr20=>
   (iter (λs=>qdb N least_2 r13 r20 s.1 s.2) N ([],0)).bind λo38=>
   (qbu N o38).bind λr91=>
   some (r91,r20.2)
def qez(N:Nat)(text_1:List UInt8)(least_2:Int)(x0:Memory):Option (Match×Bool×Memory):=
 (qfM N text_1 least_2 x0).bind λr14=>
 bif ((r14.1.length:Int)==0) then
  some ((Match.mk 0 0 ([]) ([])),false,r14.2)
 else
  (idx r14.1 0).bind λx26=>
  some (x26,true,r14.2)
def qcC(N:Nat)(l_0:List (Segment))(text_1:List UInt8)(exact_60:Bool)(x_61:Int)(x_62:Memory):Option ((Bool×Int×Memory)⊕((Memory×Bool))):=
 bif (decide (x_61<(l_0.length:Int))) then
  (show Option (Int×Memory) from
   (idx l_0 x_61).bind λx81=>
   (idx l_0 x_61).bind λx92=>
   (qei N x81.Source x92.Target x_62).bind λr103=>
   some (r103.1,r103.2)).bind λo72=>
  bif exact_60 then
   some (.inl (true,(x_61+1),o72.2))
  else
   bif (o72.1==0) then
    (idx l_0 x_61).bind λx149=>
    some (.inl ((x149.Source==text_1),(x_61+1),o72.2))
   else
    some (.inl (false,(x_61+1),o72.2))
 else
  some (.inr (x_62,exact_60))
def qcD(_N:Nat)(r222:(List (Arg))×Int)(x238:Arg)(found_253:Bool)(x_254:Int):Option ((Bool×Int)⊕Bool):=
 bif (decide (x_254<(r222.1.length:Int))) then
  (idx r222.1 x_254).bind λx257=>
  bif found_253 then
   some (.inl (true,(x_254+1)))
  else
   some (.inl ((x238.Name==x257.Name),(x_254+1)))
 else
  some (.inr found_253)
def qcd(N:Nat)(r216:(List (Arg))×Int)(r222:(List (Arg))×Int)(x_235:Int):Option (Int⊕((Unit⊕Bool))):=
 bif (decide (x_235<(r216.1.length:Int))) then
  (idx r216.1 x_235).bind λx238=>
  (iter (λs=>qcD N r222 x238 s.1 s.2) N (false,0)).bind λo251=>
  bif (!o251) then
   some (.inr (.inr false))
  else
   some (.inl (x_235+1))
 else
  some (.inr (.inl ()))
def qfn(_N:Nat)(r311:(List (Arg))×Int)(x327:Arg)(found_342:Bool)(x_343:Int):Option ((Bool×Int)⊕Bool):=
 bif (decide (x_343<(r311.1.length:Int))) then
  (idx r311.1 x_343).bind λx346=>
  bif found_342 then
   some (.inl (true,(x_343+1)))
  else
   some (.inl ((x327.Name==x346.Name),(x_343+1)))
 else
  some (.inr found_342)
def qfm(N:Nat)(r305:(List (Arg))×Int)(r311:(List (Arg))×Int)(x_324:Int):Option (Int⊕((Unit⊕Bool))):=
 bif (decide (x_324<(r305.1.length:Int))) then
  (idx r305.1 x_324).bind λx327=>
  (iter (λs=>qfn N r311 x327 s.1 s.2) N (false,0)).bind λo340=>
  bif (!o340) then
   some (.inr (.inr false))
  else
   some (.inl (x_324+1))
 else
  some (.inr (.inl ()))
def qfl(_N:Nat)(r398:(List (Arg))×Int)(x414:Arg)(found_429:Bool)(x_430:Int):Option ((Bool×Int)⊕Bool):=
 bif (decide (x_430<(r398.1.length:Int))) then
  (idx r398.1 x_430).bind λx433=>
  bif found_429 then
   some (.inl (true,(x_430+1)))
  else
   some (.inl ((x414.Name==x433.Name),(x_430+1)))
 else
  some (.inr found_429)
def qfk(N:Nat)(r392:(List (Arg))×Int)(r398:(List (Arg))×Int)(x_411:Int):Option (Int⊕((Unit⊕Bool))):=
 bif (decide (x_411<(r392.1.length:Int))) then
  (idx r392.1 x_411).bind λx414=>
  (iter (λs=>qfl N r398 x414 s.1 s.2) N (false,0)).bind λo427=>
  bif (!o427) then
   some (.inr (.inr false))
  else
   some (.inl (x_411+1))
 else
  some (.inr (.inl ()))
def qfo(_N:Nat)(r485:(List (Arg))×Int)(x501:Arg)(found_516:Bool)(x_517:Int):Option ((Bool×Int)⊕Bool):=
 bif (decide (x_517<(r485.1.length:Int))) then
  (idx r485.1 x_517).bind λx520=>
  bif found_516 then
   some (.inl (true,(x_517+1)))
  else
   some (.inl ((x501.Name==x520.Name),(x_517+1)))
 else
  some (.inr found_516)
def qfp(N:Nat)(r479:(List (Arg))×Int)(r485:(List (Arg))×Int)(x_498:Int):Option (Int⊕((Unit⊕Bool))):=
 bif (decide (x_498<(r479.1.length:Int))) then
  (idx r479.1 x_498).bind λx501=>
  (iter (λs=>qfo N r485 x501 s.1 s.2) N (false,0)).bind λo514=>
  bif (!o514) then
   some (.inr (.inr false))
  else
   some (.inl (x_498+1))
 else
  some (.inr (.inl ()))
def qcK(N:Nat)(l_0:List (Segment))(text_1:List UInt8):Option Bool:=
 (qhf N).bind λr1=>
 (qei N ([97,32,123,120,125]) ([98,32,123,120,125]) r1).bind λr11=>
 bif (r11.1 != 0) then
  some false
 else
  (qfL N r11.2).bind λr22=>
  bif (r22 != 1) then
   some false
  else
   (qfw N l_0).bind λr26=>
   bif (!r26) then
    some true
   else
    (qfc N text_1).bind λr29=>
    bif r29 then
     some true
    else
     bif (decide ((text_1.length:Int)>400)) then
      some true
     else
      (qhf N).bind λr33=>
      (iter (λs=>qcC N l_0 text_1 s.1 s.2.1 s.2.2) N (false,0,r33)).bind λo51=>
      (qez N text_1 1 o51.1).bind λr167=>
      bif o51.2 then
       bif (!r167.2.1) then
        bif (decide ((text_1.length:Int)>0)) then
         some false
        else
         bif (!r167.2.1) then
          some true
         else
          (qeV N r167.1.Source r167.1.Target text_1).bind λr187=>
          bif (r187.2 != 0) then
           some (r187.1==([]))
          else
           (qbN N r187.1).bind λr192=>
           (qbN N text_1).bind λr204=>
           (qbZ N r192.1).bind λr216=>
           (qbZ N r204.1).bind λr222=>
           bif (r192.2.2 != 0) then
            some false
           else
            bif (r204.2.2 != 0) then
             some false
            else
             bif (r216.2 != 0) then
              some true
             else
              bif (r222.2 != 0) then
               some true
              else
               (iter (λs=>qcd N r216 r222 s) N 0).bind λo233=>
               Sum.elim (λ_o233=>
                some true)
               (λo233=>
                some o233) o233
       else
        bif (r167.1.Similar != 1000) then
         bif (decide ((text_1.length:Int)>0)) then
          some false
         else
          bif (!r167.2.1) then
           some true
          else
           (qeV N r167.1.Source r167.1.Target text_1).bind λr276=>
           bif (r276.2 != 0) then
            some (r276.1==([]))
           else
            (qbN N r276.1).bind λr281=>
            (qbN N text_1).bind λr293=>
            (qbZ N r281.1).bind λr305=>
            (qbZ N r293.1).bind λr311=>
            bif (r281.2.2 != 0) then
             some false
            else
             bif (r293.2.2 != 0) then
              some false
             else
              bif (r305.2 != 0) then
               some true
              else
               bif (r311.2 != 0) then
                some true
               else
                (iter (λs=>qfm N r305 r311 s) N 0).bind λo322=>
                Sum.elim (λ_o322=>
                 some true)
                (λo322=>
                 some o322) o322
        else
         bif (!r167.2.1) then
          some true
         else
          (qeV N r167.1.Source r167.1.Target text_1).bind λr363=>
          bif (r363.2 != 0) then
           some (r363.1==([]))
          else
           (qbN N r363.1).bind λr368=>
           (qbN N text_1).bind λr380=>
           (qbZ N r368.1).bind λr392=>
           (qbZ N r380.1).bind λr398=>
           bif (r368.2.2 != 0) then
            some false
           else
            bif (r380.2.2 != 0) then
             some false
            else
             bif (r392.2 != 0) then
              some true
             else
              bif (r398.2 != 0) then
               some true
              else
               (iter (λs=>qfk N r392 r398 s) N 0).bind λo409=>
               Sum.elim (λ_o409=>
                some true)
               (λo409=>
                some o409) o409
      else
       bif (!r167.2.1) then
        some true
       else
        (qeV N r167.1.Source r167.1.Target text_1).bind λr450=>
        bif (r450.2 != 0) then
         some (r450.1==([]))
        else
         (qbN N r450.1).bind λr455=>
         (qbN N text_1).bind λr467=>
         (qbZ N r455.1).bind λr479=>
         (qbZ N r467.1).bind λr485=>
         bif (r455.2.2 != 0) then
          some false
         else
          bif (r467.2.2 != 0) then
           some false
          else
           bif (r479.2 != 0) then
            some true
           else
            bif (r485.2 != 0) then
             some true
            else
             (iter (λs=>qfp N r479 r485 s) N 0).bind λo496=>
             Sum.elim (λ_o496=>
              some true)
             (λo496=>
              some o496) o496
end Go.Proofs.YtkhjeeakflefjaaGreatDoor
