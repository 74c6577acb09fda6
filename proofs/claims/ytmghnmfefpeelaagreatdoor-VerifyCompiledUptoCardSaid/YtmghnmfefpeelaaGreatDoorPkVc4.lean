/- Texts of this proof, put together by pack.py: what its declarations name. -/
import Derived.Test.YtmghnmfefpeelaaGreatDoorPkVc3
import Derived.Test.YtmghnmfefpeelaaGreatDoorCards
import Derived.Test.YtmghnmfefpeelaaGreatDoorChecked
import Derived.Test.YtmghnmfefpeelaaGreatDoorProg
import Derived.Test.YtmghnmfefpeelaaGreatDoorRows
import Derived.Test.YtmghnmfefpeelaaGreatDoorTie
set_option linter.unusedVariables false
set_option linter.unusedSimpArgs false
namespace Go.Proofs.YtmghnmfefpeelaaGreatDoor
open Go.X
variable {u:World} {m0:Mem} {S:Segs} {w:World}
set_option maxHeartbeats 4000000
set_option maxRecDepth 100000
def qiE (u:World) (m0:Mem) (S:Segs) (r:(List (List UInt8))) (a:Act) (w:World):Prop :=
 ∃ m1 v0,m0.le m1 ∧ Ok u m1 S w ∧ a.defers = [] ∧ RVs Tryz.prog a w [.t 4 v0] ∧ (pL 1 pS) m1 [v0] r
def qed (N:Nat):Prop:=∀ {u:World} {m0:Mem} {S:Segs} {w:World} (vparts_0:Value) (parts_0:List (Part)) (hparts_0:(pL 6 qbD) m0 [vparts_0] parts_0) (vnames_1:Value) (names_1:List (List UInt8)) (hnames_1:(pL 1 pS) m0 [vnames_1] names_1) {r:(List (List UInt8))} (hF:qa5 N parts_0 names_1 = some r) (hG:Glob u) (ok:Ok u m0 S w),Calls Tryz.prog 18 [vparts_0,vnames_1].toArray w fun e w'=>∃ m1 v0,e = .returned v0 ∧ m0.le m1 ∧ Ok u m1 S w' ∧ (pL 1 pS) m1 [v0] r
theorem qhB (N:Nat) (ih_calqueref26_Names:qed N):qed (N + 1):=by
 intro u m0 S w vparts_0 parts_0 hparts_0 vnames_1 names_1 hnames_1 r hF hG ok
 have le_m0:=Mem.le.refl m0
 have hF0:qcU (qa5 N) N parts_0 names_1 = some r:=hF
 have hF:=hF0
 clear hF0
 unfold qcU at hF
 refine en (qiE u m0 S) r Tryz.func18 rfl rfl rfl (fun _ _ h=>rc h fun _=>rfl) fun fin a E=>sg<|aw E rfl fun a E=>wp_seq<|sg<|aw E rfl fun a E=>wp_block<|bd hF fun o4 hL hF=>qaX _ (fun (s:(List (List UInt8)) × Int) a w=>∃ m5 c6,m0.le m5 ∧ Ok u m5 (S) w ∧ Env 60 a [(0,vparts_0),(1,c6),(5,vi s.2)] ∧ (pL 1 pS) m5 [c6] s.1 ∧ InR .i64 s.2) (fun (b:((List (List UInt8)))) e a w=>e = (.exit 0) ∧ ∃ m236 c237,m0.le m236 ∧ Ok u m236 (S) w ∧ Env 60 a [(1,c237)] ∧ (pL 1 pS) m236 [c237] b) ?_ ?_ N _ a w hL ⟨m0,vnames_1,Mem.le.refl _,ok,E.keep [0,1,5],hnames_1,(ir 0)⟩
 rotate_left
 ·intro e a w _ hO
  obtain ⟨rfl,m233,c234,hle,ok,E,h235⟩:=hO
  have le_m0:=le_m0.trans hle
  have hparts_0:=(mL qaq).up hle hparts_0
  have hnames_1:=(mL mS).up hle hnames_1
  refine qba<|qaa<|sg<|mv E rfl fun a E=>aw E rfl fun a E=>wp_ret ?_
  exact fin hF ⟨m233,c234,le_m0,ok,E.d,rz E rfl,h235⟩
 rintro ⟨v9,v10⟩ a w r ⟨m11,c12,hle,ok,E,h13,r14⟩ hF
 replace hF:qcD (qa5 N) N parts_0 v9 v10 = some r:=hF
 unfold qcD at hF
 have le_m0:=le_m0.trans hle
 have hparts_0:=(mL qaq).up hle hparts_0
 have hnames_1:=(mL mS).up hle hnames_1
 refine wp_seq<|sg<|mz E rfl rfl fun a E=>lv E ok (qax qbj hparts_0 rfl) fun a E=>lw E (qaJ rfl rfl) fun a E=>wn<|cg E rfl hF (fun c15 hF=>?_) fun c15 hF=>?_
 ·refine wp_exit<|qaO ?_
  cases hF
  exact so (⟨rfl,⟨m11,c12,le_m0,ok,E.keep [1],h13⟩⟩)
 refine wp_skip<|qaa<|wp_seq<|wp_block<|sg<|mz E rfl rfl fun a E=>?_
 obtain ⟨x16,e17,hF⟩:=bnd hF
 obtain ⟨b18,o19,es20,hl21,rr22,at23,yy24⟩:=ia E 14 15 qbj hparts_0 e17
 obtain ⟨c29,c31,rfl,r25,l26,l27,l28,h30,h32⟩:=(qaL.1 rr22)
 refine lv E ok (yy24 _ _) fun a E=>lv E ok (qaj (cs:=[vi x16.Kind,vs x16.Text,vs x16.Name,vs x16.Style,c29,c31]) qep rfl rfl (qac.ro at23)) fun a E=>qbh E ok qeV rfl rfl fun b33 a w E ok=>qai E ok 0 rfl rfl rfl qgg rfl rfl ⟨rfl,rfl,rfl,rfl,(qcW h30),(qcW h32),trivial⟩ rfl rfl fun w ok=>wn<|wp_seq<|sg<|fk E ok qar qat rfl 0 rfl rfl fun a E=>lw E (qcB rfl rfl) fun a E=>mv E rfl fun a E=>bw E 21 hF (fun c34 hF E=>?_) fun c34 hF E=>?_
 ·as_aux_lemma =>
   refine lsq E fun a E=>ls E fun a E=>pf E rfl rfl fun a E=>mv E rfl fun a E=>lsz E fun a E=>ls E fun a E=>pf E rfl rfl fun a E=>wn<|c_if E rfl (fun h=>by cases h) (fun _=>?_)
   refine wp_skip<|qaa<|sg<|fk E ok qbs qa2 rfl 0 rfl rfl fun a E=>mv E rfl fun a E=>bd hF fun r190 e191 hF=>qas E qik rfl (ih_calqueref26_Names _ x16.Parts h32 _ v9 h13 e191 hG ok) rfl rfl ?_
   rintro _ w ⟨m192,c193,rfl,hle,ok,h194⟩
   have le_m0:=le_m0.trans hle
   have hparts_0:=(mL qaq).up hle hparts_0
   have hnames_1:=(mL mS).up hle hnames_1
   have h13:=(mL mS).up hle h13
   have h30:=(mL qa6).up hle h30
   have h32:=(mL qaq).up hle h32
   have at23:=At.up hle at23
   refine ⟨_,rfl,fun a E=>?_⟩
   refine aw E rfl fun a E=>sg<|aw E rfl fun a E=>wp_block<|bd hF fun o198 hL hF=>qaX _ (fun (s:(List (List UInt8)) × Int) a w=>∃ m199 c200,m192.le m199 ∧ Ok u m199 ([(b33,oc 63 [vi x16.Kind,vs x16.Text,vs x16.Name,vs x16.Style,c29,c31])] :: S) w ∧ Env 60 a [(0,vparts_0),(1,c200),(5,vi v10),(6,vp b33),(7,vi s.2)] ∧ (pL 1 pS) m199 [c200] s.1 ∧ InR .i64 s.2) (fun (b:((List (List UInt8)))) e a w=>e = (.exit 2) ∧ ∃ m230 c231,m192.le m230 ∧ Ok u m230 ([(b33,oc 63 [vi x16.Kind,vs x16.Text,vs x16.Name,vs x16.Style,c29,c31])] :: S) w ∧ Env 60 a [(0,vparts_0),(1,c231),(5,vi v10)] ∧ (pL 1 pS) m230 [c231] b) ?_ ?_ N _ a w hL ⟨m192,c193,Mem.le.refl _,ok,E.keep [0,1,5,6,7],h194,(ir 0)⟩
   rotate_left
   ·intro e a w _ hO
    obtain ⟨rfl,m227,c228,hle,ok,E,h229⟩:=hO
    have le_m0:=le_m0.trans hle
    have hparts_0:=(mL qaq).up hle hparts_0
    have hnames_1:=(mL mS).up hle hnames_1
    have h13:=(mL mS).up hle h13
    have h30:=(mL qa6).up hle h30
    have h32:=(mL qaq).up hle h32
    have at23:=At.up hle at23
    have h194:=(mL mS).up hle h194
    refine qba<|qag<|qaa<|qab<|mv E rfl fun a E=>lw E (qau rfl rfl (InR.inc r14 (qae hparts_0) c15)) fun a E=>av E rfl fun a E=>wpList_nil ?_
    cases hF
    exact qap ⟨m227,c228,le_m0,(ok.pk 1 [] rfl (by decide)),E.keep [0,1,5],h229,(InR.inc r14 (qae hparts_0) c15)⟩
   rintro ⟨v203,v204⟩ a w r ⟨m205,c206,hle,ok,E,h207,r208⟩ hF
   replace hF:qdW (qa5 N) N x16 v203 v204 = some r:=hF
   unfold qdW at hF
   have le_m192:=Mem.le.refl m192
   have le_m0:=le_m0.trans hle
   have le_m192:=le_m192.trans hle
   have hparts_0:=(mL qaq).up hle hparts_0
   have hnames_1:=(mL mS).up hle hnames_1
   have h13:=(mL mS).up hle h13
   have h30:=(mL qa6).up hle h30
   have h32:=(mL qaq).up hle h32
   have at23:=At.up hle at23
   have h194:=(mL mS).up hle h194
   refine wp_seq<|sg<|mv E rfl fun a E=>fk E ok qaR qaZ rfl 0 rfl rfl fun a E=>lv E ok (qax qbe h30 rfl) fun a E=>lw E (qaJ rfl rfl) fun a E=>wn<|cg E rfl hF (fun c209 hF=>?_) fun c209 hF=>?_
   ·refine wp_exit<|qaO ?_
    cases hF
    exact so (⟨rfl,⟨m205,c206,le_m192,ok,E.keep [0,1,5],h207⟩⟩)
   refine wp_skip<|qaa<|wp_seq<|wp_block<|qab<|fk E ok qaR qaZ rfl 0 rfl rfl fun a E=>mv E rfl fun a E=>?_
   obtain ⟨x210,e211,hF⟩:=bnd hF
   obtain ⟨b212,o213,es214,hl215,rr216,at217,yy218⟩:=ia E 52 53 qbe h30 e211
   obtain ⟨c220,rfl,l219,h221⟩:=rr216
   refine lv E ok (yy218 _ _) fun a E=>fv E qdP rfl fun a E=>lv E ok (qak qa2 rfl (qac.ro (At.sub 1 1 at217))) fun a E=>mv E rfl fun a E=>bd hF fun r222 e223 hF=>qas E qik rfl (ih_calqueref26_Names _ x210.Parts h221 _ v203 h207 e223 hG ok) rfl rfl ?_
   rintro _ w ⟨m224,c225,rfl,hle,ok,h226⟩
   have le_m0:=le_m0.trans hle
   have le_m192:=le_m192.trans hle
   have hparts_0:=(mL qaq).up hle hparts_0
   have hnames_1:=(mL mS).up hle hnames_1
   have h13:=(mL mS).up hle h13
   have h30:=(mL qa6).up hle h30
   have h32:=(mL qaq).up hle h32
   have at23:=At.up hle at23
   have h194:=(mL mS).up hle h194
   have h207:=(mL mS).up hle h207
   have h221:=(mL qaq).up hle h221
   have at217:=At.up hle at217
   refine ⟨_,rfl,fun a E=>?_⟩
   refine av E rfl fun a E=>wpList_nil<|qag<|qaa<|qab<|mv E rfl fun a E=>lw E (qau rfl rfl (InR.inc r208 (qae h30) c209)) fun a E=>av E rfl fun a E=>wpList_nil ?_
   cases hF
   exact qap ⟨m224,c225,le_m192,ok,E.keep [0,1,5,6,7],h226,(InR.inc r208 (qae h30) c209)⟩
 refine fk E ok qar qat rfl 0 rfl rfl fun a E=>lw E (qcd rfl rfl) fun a E=>pt E rfl rfl fun a E=>mv E rfl fun a E=>bw E 26 hF (fun c35 hF E=>?_) fun c35 hF E=>?_
 ·as_aux_lemma =>
   refine lsz E fun a E=>ls E fun a E=>pf E rfl rfl fun a E=>wn<|c_if E rfl (fun h=>by cases h) (fun _=>?_)
   refine wp_skip<|qaa<|sg<|fk E ok qbs qa2 rfl 0 rfl rfl fun a E=>mv E rfl fun a E=>bd hF fun r147 e148 hF=>qas E qik rfl (ih_calqueref26_Names _ x16.Parts h32 _ v9 h13 e148 hG ok) rfl rfl ?_
   rintro _ w ⟨m149,c150,rfl,hle,ok,h151⟩
   have le_m0:=le_m0.trans hle
   have hparts_0:=(mL qaq).up hle hparts_0
   have hnames_1:=(mL mS).up hle hnames_1
   have h13:=(mL mS).up hle h13
   have h30:=(mL qa6).up hle h30
   have h32:=(mL qaq).up hle h32
   have at23:=At.up hle at23
   refine ⟨_,rfl,fun a E=>?_⟩
   refine aw E rfl fun a E=>sg<|aw E rfl fun a E=>wp_block<|bd hF fun o155 hL hF=>qaX _ (fun (s:(List (List UInt8)) × Int) a w=>∃ m156 c157,m149.le m156 ∧ Ok u m156 ([(b33,oc 63 [vi x16.Kind,vs x16.Text,vs x16.Name,vs x16.Style,c29,c31])] :: S) w ∧ Env 60 a [(0,vparts_0),(1,c157),(5,vi v10),(6,vp b33),(7,vi s.2)] ∧ (pL 1 pS) m156 [c157] s.1 ∧ InR .i64 s.2) (fun (b:((List (List UInt8)))) e a w=>e = (.exit 2) ∧ ∃ m187 c188,m149.le m187 ∧ Ok u m187 ([(b33,oc 63 [vi x16.Kind,vs x16.Text,vs x16.Name,vs x16.Style,c29,c31])] :: S) w ∧ Env 60 a [(0,vparts_0),(1,c188),(5,vi v10)] ∧ (pL 1 pS) m187 [c188] b) ?_ ?_ N _ a w hL ⟨m149,c150,Mem.le.refl _,ok,E.keep [0,1,5,6,7],h151,(ir 0)⟩
   rotate_left
   ·intro e a w _ hO
    obtain ⟨rfl,m184,c185,hle,ok,E,h186⟩:=hO
    have le_m0:=le_m0.trans hle
    have hparts_0:=(mL qaq).up hle hparts_0
    have hnames_1:=(mL mS).up hle hnames_1
    have h13:=(mL mS).up hle h13
    have h30:=(mL qa6).up hle h30
    have h32:=(mL qaq).up hle h32
    have at23:=At.up hle at23
    have h151:=(mL mS).up hle h151
    refine qba<|qag<|qaa<|qab<|mv E rfl fun a E=>lw E (qau rfl rfl (InR.inc r14 (qae hparts_0) c15)) fun a E=>av E rfl fun a E=>wpList_nil ?_
    cases hF
    exact qap ⟨m184,c185,le_m0,(ok.pk 1 [] rfl (by decide)),E.keep [0,1,5],h186,(InR.inc r14 (qae hparts_0) c15)⟩
   rintro ⟨v160,v161⟩ a w r ⟨m162,c163,hle,ok,E,h164,r165⟩ hF
   replace hF:qdV (qa5 N) N x16 v160 v161 = some r:=hF
   unfold qdV at hF
   have le_m149:=Mem.le.refl m149
   have le_m0:=le_m0.trans hle
   have le_m149:=le_m149.trans hle
   have hparts_0:=(mL qaq).up hle hparts_0
   have hnames_1:=(mL mS).up hle hnames_1
   have h13:=(mL mS).up hle h13
   have h30:=(mL qa6).up hle h30
   have h32:=(mL qaq).up hle h32
   have at23:=At.up hle at23
   have h151:=(mL mS).up hle h151
   refine wp_seq<|sg<|mv E rfl fun a E=>fk E ok qaR qaZ rfl 0 rfl rfl fun a E=>lv E ok (qax qbe h30 rfl) fun a E=>lw E (qaJ rfl rfl) fun a E=>wn<|cg E rfl hF (fun c166 hF=>?_) fun c166 hF=>?_
   ·refine wp_exit<|qaO ?_
    cases hF
    exact so (⟨rfl,⟨m162,c163,le_m149,ok,E.keep [0,1,5],h164⟩⟩)
   refine wp_skip<|qaa<|wp_seq<|wp_block<|qab<|fk E ok qaR qaZ rfl 0 rfl rfl fun a E=>mv E rfl fun a E=>?_
   obtain ⟨x167,e168,hF⟩:=bnd hF
   obtain ⟨b169,o170,es171,hl172,rr173,at174,yy175⟩:=ia E 52 53 qbe h30 e168
   obtain ⟨c177,rfl,l176,h178⟩:=rr173
   refine lv E ok (yy175 _ _) fun a E=>fv E qdP rfl fun a E=>lv E ok (qak qa2 rfl (qac.ro (At.sub 1 1 at174))) fun a E=>mv E rfl fun a E=>bd hF fun r179 e180 hF=>qas E qik rfl (ih_calqueref26_Names _ x167.Parts h178 _ v160 h164 e180 hG ok) rfl rfl ?_
   rintro _ w ⟨m181,c182,rfl,hle,ok,h183⟩
   have le_m0:=le_m0.trans hle
   have le_m149:=le_m149.trans hle
   have hparts_0:=(mL qaq).up hle hparts_0
   have hnames_1:=(mL mS).up hle hnames_1
   have h13:=(mL mS).up hle h13
   have h30:=(mL qa6).up hle h30
   have h32:=(mL qaq).up hle h32
   have at23:=At.up hle at23
   have h151:=(mL mS).up hle h151
   have h164:=(mL mS).up hle h164
   have h178:=(mL qaq).up hle h178
   have at174:=At.up hle at174
   refine ⟨_,rfl,fun a E=>?_⟩
   refine av E rfl fun a E=>wpList_nil<|qag<|qaa<|qab<|mv E rfl fun a E=>lw E (qau rfl rfl (InR.inc r165 (qae h30) c166)) fun a E=>av E rfl fun a E=>wpList_nil ?_
   cases hF
   exact qap ⟨m181,c182,le_m149,ok,E.keep [0,1,5,6,7],h183,(InR.inc r165 (qae h30) c166)⟩
 refine mv E rfl fun a E=>fk E ok qaw qah rfl 0 rfl rfl fun a E=>bd hF fun r36 e37 hF=>lc E qiq rfl (qc0 N _ v9 h13 x16.Name l27 e37 hG ok) fun w ok a E=>lw E (qaz rfl) fun a E=>pt E rfl rfl fun a E=>wn<|bd hF fun o38 hJ hF=>qaK (Q':=fun e a w=>e = .normal ∧ ∃ m39 c40,m11.le m39 ∧ Ok u m39 ([(b33,oc 63 [vi x16.Kind,vs x16.Text,vs x16.Name,vs x16.Style,c29,c31])] :: S) w ∧ Env 60 a [(0,vparts_0),(1,c40),(5,vi v10),(6,vp b33)] ∧ (pL 1 pS) m39 [c40] o38) ?_ ?_
 ·as_aux_lemma =>
   have hF:=hJ
   have le_m11:=Mem.le.refl m11
   refine cg E rfl hF (fun c42 hF=>?_) fun c42 hF=>?_
   ·refine wp_skip ?_
    cases hF
    exact ⟨rfl,⟨m11,c12,le_m11,ok,E.keep [0,1,5,6],h13⟩⟩
   refine bd hF fun o43 hJ hF=>qaK (Q':=fun e a w=>e = .normal ∧ ∃ c44 M45,Ok u m11 (M45 :: [(b33,oc 63 [vi x16.Kind,vs x16.Text,vs x16.Name,vs x16.Style,c29,c31])] :: S) w ∧ Env 60 a [(0,vparts_0),(1,c44),(5,vi v10),(6,vp b33)] ∧ ORow 9 1 pS m11 c44 o43 M45) ?_ ?_
   rotate_left
   ·intro e a w hO
    obtain ⟨rfl,c96,M97,ok,E,h98⟩:=hO
    obtain ⟨m99,hle,ok,hfz⟩:=(ok.frs 0 rfl).freeze
    have h100:=ORow.froz mS h98 hle hfz (by decide)
    have le_m0:=le_m0.trans hle
    have le_m11:=le_m11.trans hle
    have hparts_0:=(mL qaq).up hle hparts_0
    have hnames_1:=(mL mS).up hle hnames_1
    have h13:=(mL mS).up hle h13
    have h30:=(mL qa6).up hle h30
    have h32:=(mL qaq).up hle h32
    have at23:=At.up hle at23
    cases hF
    exact ⟨rfl,⟨m99,c96,le_m11,ok,E.keep [0,1,5,6],h100⟩⟩
   have hF:=hJ
   obtain ⟨l50,e51,hF⟩:=bnd hF
   obtain ⟨l58,e59,hF⟩:=bnd hF
   obtain rfl:=sj hF
   refine qbT [] (Cls u m11 ([(b33,oc 63 [vi x16.Kind,vs x16.Text,vs x16.Name,vs x16.Style,c29,c31])] :: [])) (Cls u m11 ([(b33,oc 63 [vi x16.Kind,vs x16.Text,vs x16.Name,vs x16.Style,c29,c31])] :: [])) (by kernel_rfl) ?_
   intro w hw
   replace ok:=qck ok hw
   clear hw
   refine qan (cl1 (cq le_m11 ok [0] rfl) (cq le_m11 ok [0] rfl)) fun hT=>kt 1 E rfl hT (qal rfl) fun a E=>kt 3 E rfl hT (qad qaw rfl) fun a E=>kt 4 E rfl hT (qak qah rfl (qac.cown 0 rfl rfl)) fun a E=>qaC [0,5] (by kernel_rfl) rfl (qd9 ?_ (qd9 ?_ (qgC)))
   rotate_left
   ·refine wo rfl<|qcy (R:=pS) (xo:=[.tmp 37]) (xs:=([x16.Name]:List (List UInt8))) E ok qbx qb0 rfl ⟨⟨_,rfl,rfl,(qc9 l27)⟩,trivial⟩ rfl rfl rfl rfl fun c84 M85 a w E ok h86=>wn<|qan (cl1 (cq le_m11 ok [1] rfl) (cq le_m11 ok [1] rfl)) fun hT=>qaC [0] (by kernel_rfl) rfl (qaH ?_)
    ·refine wo rfl<|qcy (R:=pS) (xo:=[]) (xs:=([]:List (List UInt8))) E ok qbx qb0 rfl trivial rfl rfl rfl rfl fun c87 M88 a w E ok h89=>wn<|qan (cl1 (cq le_m11 ok [2] rfl) (cq le_m11 ok [2] rfl)) fun hT=>qaC [2] (by kernel_rfl) rfl (qaH ?_)
     ·refine wo rfl<|qec (R:=pS) E ok 0 mS qbx Tryz.underlying25 rfl h89 (qb5.ofL h13 ok) e51 ⟨_,qb0,rfl⟩ rfl rfl rfl rfl fun c90 M91 a w E ok h92=>wn<|qan (cl1 (cq le_m11 ok [2] rfl) (cq le_m11 ok [2] rfl)) fun hT=>qaC [6] (by kernel_rfl) rfl (qaH ?_)
      ·refine wo rfl<|qec (R:=pS) E ok 0 mS qbx Tryz.underlying25 rfl h92 (qb5.ofRow h86 1 rfl ok) e59 ⟨_,qb0,rfl⟩ rfl rfl rfl rfl fun c93 M94 a w E ok h95=>wn<|qan (cl1 (cq le_m11 ok [2] rfl) (cq le_m11 ok [2] rfl)) fun hT=>kt 7 E rfl hT (qa4 rfl) fun a E=>qbq (by kernel_rfl) ?_
       exact ⟨rfl,⟨c93,M94,(ok.pk 3 [0,2] rfl (by decide)),E.keep [0,1,5,6],h95⟩⟩
   refine wo rfl<|qcy (R:=pS) (xo:=[]) (xs:=([]:List (List UInt8))) E ok qbx qb0 rfl trivial rfl rfl rfl rfl fun c63 M64 a w E ok h65=>wn<|qan (cl1 (cq le_m11 ok [1] rfl) (cq le_m11 ok [1] rfl)) fun hT=>qaC [2,5] (by kernel_rfl) rfl (qd9 ?_ (qd9 ?_ (qgC)))
   ·refine wo rfl<|qec (R:=pS) E ok 0 mS qbx Tryz.underlying25 rfl h65 (qb5.ofL h13 ok) e51 ⟨_,qb0,rfl⟩ rfl rfl rfl rfl fun c66 M67 a w E ok h68=>wn<|qan (cl1 (cq le_m11 ok [1] rfl) (cq le_m11 ok [1] rfl)) fun hT=>qaC [5] (by kernel_rfl) rfl (qaH ?_)
    ·refine wo rfl<|qcy (R:=pS) (xo:=[.tmp 37]) (xs:=([x16.Name]:List (List UInt8))) E ok qbx qb0 rfl ⟨⟨_,rfl,rfl,(qc9 l27)⟩,trivial⟩ rfl rfl rfl rfl fun c69 M70 a w E ok h71=>wn<|qan (cl1 (cq le_m11 ok [2] rfl) (cq le_m11 ok [2] rfl)) fun hT=>qaC [6] (by kernel_rfl) rfl (qaH ?_)
     ·refine wo rfl<|qec (R:=pS) E ok 1 mS qbx Tryz.underlying25 rfl h68 (qb5.ofRow h71 0 rfl ok) e59 ⟨_,qb0,rfl⟩ rfl rfl rfl rfl fun c72 M73 a w E ok h74=>wn<|qan (cl1 (cq le_m11 ok [2] rfl) (cq le_m11 ok [2] rfl)) fun hT=>kt 7 E rfl hT (qa4 rfl) fun a E=>qbq (by kernel_rfl) ?_
      exact ⟨rfl,⟨c72,M73,(ok.pk 3 [1,2] rfl (by decide)),E.keep [0,1,5,6],h74⟩⟩
   refine wo rfl<|qcy (R:=pS) (xo:=[.tmp 37]) (xs:=([x16.Name]:List (List UInt8))) E ok qbx qb0 rfl ⟨⟨_,rfl,rfl,(qc9 l27)⟩,trivial⟩ rfl rfl rfl rfl fun c75 M76 a w E ok h77=>wn<|qan (cl1 (cq le_m11 ok [2] rfl) (cq le_m11 ok [2] rfl)) fun hT=>qaC [2] (by kernel_rfl) rfl (qaH ?_)
   ·refine wo rfl<|qec (R:=pS) E ok 1 mS qbx Tryz.underlying25 rfl h65 (qb5.ofL h13 ok) e51 ⟨_,qb0,rfl⟩ rfl rfl rfl rfl fun c78 M79 a w E ok h80=>wn<|qan (cl1 (cq le_m11 ok [2] rfl) (cq le_m11 ok [2] rfl)) fun hT=>qaC [6] (by kernel_rfl) rfl (qaH ?_)
    ·refine wo rfl<|qec (R:=pS) E ok 1 mS qbx Tryz.underlying25 rfl h80 (qb5.ofRow h77 0 rfl ok) e59 ⟨_,qb0,rfl⟩ rfl rfl rfl rfl fun c81 M82 a w E ok h83=>wn<|qan (cl1 (cq le_m11 ok [2] rfl) (cq le_m11 ok [2] rfl)) fun hT=>kt 7 E rfl hT (qa4 rfl) fun a E=>qbq (by kernel_rfl) ?_
     exact ⟨rfl,⟨c81,M82,(ok.pk 3 [1,2] rfl (by decide)),E.keep [0,1,5,6],h83⟩⟩
 intro e a w hO
 obtain ⟨rfl,m101,c102,hle,ok,E,h103⟩:=hO
 have le_m0:=le_m0.trans hle
 have hparts_0:=(mL qaq).up hle hparts_0
 have hnames_1:=(mL mS).up hle hnames_1
 have h13:=(mL mS).up hle h13
 have h30:=(mL qa6).up hle h30
 have h32:=(mL qaq).up hle h32
 have at23:=At.up hle at23
 refine qaa<|sg<|fk E ok qbs qa2 rfl 0 rfl rfl fun a E=>mv E rfl fun a E=>bd hF fun r104 e105 hF=>qas E qik rfl (ih_calqueref26_Names _ x16.Parts h32 _ o38 h103 e105 hG ok) rfl rfl ?_
 rintro _ w ⟨m106,c107,rfl,hle,ok,h108⟩
 have le_m0:=le_m0.trans hle
 have hparts_0:=(mL qaq).up hle hparts_0
 have hnames_1:=(mL mS).up hle hnames_1
 have h13:=(mL mS).up hle h13
 have h30:=(mL qa6).up hle h30
 have h32:=(mL qaq).up hle h32
 have at23:=At.up hle at23
 have h103:=(mL mS).up hle h103
 refine ⟨_,rfl,fun a E=>?_⟩
 refine aw E rfl fun a E=>sg<|aw E rfl fun a E=>wp_block<|bd hF fun o112 hL hF=>qaX _ (fun (s:(List (List UInt8)) × Int) a w=>∃ m113 c114,m106.le m113 ∧ Ok u m113 ([(b33,oc 63 [vi x16.Kind,vs x16.Text,vs x16.Name,vs x16.Style,c29,c31])] :: S) w ∧ Env 60 a [(0,vparts_0),(1,c114),(5,vi v10),(6,vp b33),(7,vi s.2)] ∧ (pL 1 pS) m113 [c114] s.1 ∧ InR .i64 s.2) (fun (b:((List (List UInt8)))) e a w=>e = (.exit 2) ∧ ∃ m144 c145,m106.le m144 ∧ Ok u m144 ([(b33,oc 63 [vi x16.Kind,vs x16.Text,vs x16.Name,vs x16.Style,c29,c31])] :: S) w ∧ Env 60 a [(0,vparts_0),(1,c145),(5,vi v10)] ∧ (pL 1 pS) m144 [c145] b) ?_ ?_ N _ a w hL ⟨m106,c107,Mem.le.refl _,ok,E.keep [0,1,5,6,7],h108,(ir 0)⟩
 rotate_left
 ·intro e a w _ hO
  obtain ⟨rfl,m141,c142,hle,ok,E,h143⟩:=hO
  have le_m0:=le_m0.trans hle
  have hparts_0:=(mL qaq).up hle hparts_0
  have hnames_1:=(mL mS).up hle hnames_1
  have h13:=(mL mS).up hle h13
  have h30:=(mL qa6).up hle h30
  have h32:=(mL qaq).up hle h32
  have at23:=At.up hle at23
  have h103:=(mL mS).up hle h103
  have h108:=(mL mS).up hle h108
  refine qba<|qag<|qaa<|qab<|mv E rfl fun a E=>lw E (qau rfl rfl (InR.inc r14 (qae hparts_0) c15)) fun a E=>av E rfl fun a E=>wpList_nil ?_
  cases hF
  exact qap ⟨m141,c142,le_m0,(ok.pk 1 [] rfl (by decide)),E.keep [0,1,5],h143,(InR.inc r14 (qae hparts_0) c15)⟩
 rintro ⟨v117,v118⟩ a w r ⟨m119,c120,hle,ok,E,h121,r122⟩ hF
 replace hF:qbw (qa5 N) N x16 v117 v118 = some r:=hF
 unfold qbw at hF
 have le_m106:=Mem.le.refl m106
 have le_m0:=le_m0.trans hle
 have le_m106:=le_m106.trans hle
 have hparts_0:=(mL qaq).up hle hparts_0
 have hnames_1:=(mL mS).up hle hnames_1
 have h13:=(mL mS).up hle h13
 have h30:=(mL qa6).up hle h30
 have h32:=(mL qaq).up hle h32
 have at23:=At.up hle at23
 have h103:=(mL mS).up hle h103
 have h108:=(mL mS).up hle h108
 refine wp_seq<|sg<|mv E rfl fun a E=>fk E ok qaR qaZ rfl 0 rfl rfl fun a E=>lv E ok (qax qbe h30 rfl) fun a E=>lw E (qaJ rfl rfl) fun a E=>wn<|cg E rfl hF (fun c123 hF=>?_) fun c123 hF=>?_
 ·refine wp_exit<|qaO ?_
  cases hF
  exact so (⟨rfl,⟨m119,c120,le_m106,ok,E.keep [0,1,5],h121⟩⟩)
 refine wp_skip<|qaa<|wp_seq<|wp_block<|qab<|fk E ok qaR qaZ rfl 0 rfl rfl fun a E=>mv E rfl fun a E=>?_
 obtain ⟨x124,e125,hF⟩:=bnd hF
 obtain ⟨b126,o127,es128,hl129,rr130,at131,yy132⟩:=ia E 52 53 qbe h30 e125
 obtain ⟨c134,rfl,l133,h135⟩:=rr130
 refine lv E ok (yy132 _ _) fun a E=>fv E qdP rfl fun a E=>lv E ok (qak qa2 rfl (qac.ro (At.sub 1 1 at131))) fun a E=>mv E rfl fun a E=>bd hF fun r136 e137 hF=>qas E qik rfl (ih_calqueref26_Names _ x124.Parts h135 _ v117 h121 e137 hG ok) rfl rfl ?_
 rintro _ w ⟨m138,c139,rfl,hle,ok,h140⟩
 have le_m0:=le_m0.trans hle
 have le_m106:=le_m106.trans hle
 have hparts_0:=(mL qaq).up hle hparts_0
 have hnames_1:=(mL mS).up hle hnames_1
 have h13:=(mL mS).up hle h13
 have h30:=(mL qa6).up hle h30
 have h32:=(mL qaq).up hle h32
 have at23:=At.up hle at23
 have h103:=(mL mS).up hle h103
 have h108:=(mL mS).up hle h108
 have h121:=(mL mS).up hle h121
 have h135:=(mL qaq).up hle h135
 have at131:=At.up hle at131
 refine ⟨_,rfl,fun a E=>?_⟩
 refine av E rfl fun a E=>wpList_nil<|qag<|qaa<|qab<|mv E rfl fun a E=>lw E (qau rfl rfl (InR.inc r122 (qae h30) c123)) fun a E=>av E rfl fun a E=>wpList_nil ?_
 cases hF
 exact qap ⟨m138,c139,le_m106,ok,E.keep [0,1,5,6,7],h140,(InR.inc r122 (qae h30) c123)⟩
theorem qhy:qed 0:=by
 intro u m0 S w vparts_0 parts_0 hparts_0 vnames_1 names_1 hnames_1 r hF hG ok
 replace hF:none = some r:=hF
 cases hF
theorem qgO (N:Nat):qed N:=by
 induction N with
 | zero=>exact qhy
 | succ N h=>exact qhB N h
theorem qiO {u:World} {m0:Mem} {S:Segs} {w:World} (N:Nat) (vparts_0:Value) (parts_0:List (Part)) (hparts_0:(pL 6 qbD) m0 [vparts_0] parts_0) (vnames_1:Value) (names_1:List (List UInt8)) (hnames_1:(pL 1 pS) m0 [vnames_1] names_1) {r:(List (List UInt8))} (hF:qa5 N parts_0 names_1 = some r) (hG:Glob u) (ok:Ok u m0 S w) :
 Calls Tryz.prog 18 [vparts_0,vnames_1].toArray w fun e w'=>∃ m1 v0,e = .returned v0 ∧ m0.le m1 ∧ Ok u m1 S w' ∧ (pL 1 pS) m1 [v0] r:=(qgO N) vparts_0 parts_0 hparts_0 vnames_1 names_1 hnames_1 hF hG ok
def qic (u:World) (m0:Mem) (S:Segs) (r:Bool) (a:Act) (w:World):Prop :=
 Ok u m0 S w ∧ a.defers = [] ∧ RVs Tryz.prog a w [.t 2 (.bool r)]
theorem qhO (N:Nat) (c_0:Int) (rc_0:InR .u8 c_0) {r:Bool} (hF:qdr N c_0 = some r) (hG:Glob u) (ok:Ok u m0 S w) :
  Calls Tryz.prog 51 [Value.int .u8 c_0].toArray w fun e w'=>(e = .returned (.bool r) ∧ Ok u m0 S w'):=by
 unfold qdr at hF
 refine en (qic u m0 S) r Tryz.func51 rfl rfl rfl (fun _ _ h=>ra h rfl) fun fin a E=>sg<|aw E rfl fun a E=>sg<|mv E rfl fun a E=>lw E (qao rfl rfl) fun a E=>mv E rfl fun a E=>bu E 5 hF (fun c1 hF E=>?_) fun c1 hF E=>?_
 ·refine lsq E fun a E=>pt E rfl rfl fun a E=>mv E rfl fun a E=>lsq E fun a E=>pt E rfl rfl fun a E=>mv E rfl fun a E=>lsq E fun a E=>pt E rfl rfl fun a E=>mv E rfl fun a E=>lsq E fun a E=>pt E rfl rfl fun a E=>mv E rfl fun a E=>?_
  refine lsq E fun a E=>pt E rfl rfl fun a E=>aw E rfl fun a E=>wp_ret ?_
  exact fin hF ⟨ok,E.d,rz E rfl⟩
 refine mv E rfl fun a E=>lw E (qao rfl rfl) fun a E=>pf E rfl rfl fun a E=>mv E rfl fun a E=>bu E 9 hF (fun c2 hF E=>?_) fun c2 hF E=>?_
 ·refine lsq E fun a E=>pt E rfl rfl fun a E=>mv E rfl fun a E=>lsq E fun a E=>pt E rfl rfl fun a E=>mv E rfl fun a E=>lsq E fun a E=>pt E rfl rfl fun a E=>mv E rfl fun a E=>lsq E fun a E=>pt E rfl rfl fun a E=>av E rfl fun a E=>?_
  refine wn<|wp_ret ?_
  exact fin hF ⟨ok,E.d,rz E rfl⟩
 refine mv E rfl fun a E=>lw E (qao rfl rfl) fun a E=>pf E rfl rfl fun a E=>mv E rfl fun a E=>bu E 13 hF (fun c3 hF E=>?_) fun c3 hF E=>?_
 ·refine lsq E fun a E=>pt E rfl rfl fun a E=>mv E rfl fun a E=>lsq E fun a E=>pt E rfl rfl fun a E=>mv E rfl fun a E=>lsq E fun a E=>pt E rfl rfl fun a E=>aw E rfl fun a E=>wp_ret ?_
  exact fin hF ⟨ok,E.d,rz E rfl⟩
 refine mv E rfl fun a E=>lw E (qao rfl rfl) fun a E=>pf E rfl rfl fun a E=>mv E rfl fun a E=>bu E 17 hF (fun c4 hF E=>?_) fun c4 hF E=>?_
 ·refine lsq E fun a E=>pt E rfl rfl fun a E=>mv E rfl fun a E=>lsq E fun a E=>pt E rfl rfl fun a E=>av E rfl fun a E=>wn<|wp_ret ?_
  exact fin hF ⟨ok,E.d,rz E rfl⟩
 refine mv E rfl fun a E=>lw E (qao rfl rfl) fun a E=>pf E rfl rfl fun a E=>mv E rfl fun a E=>bu E 21 hF (fun c5 hF E=>?_) fun c5 hF E=>?_
 ·refine lsq E fun a E=>pt E rfl rfl fun a E=>aw E rfl fun a E=>wp_ret ?_
  exact fin hF ⟨ok,E.d,rz E rfl⟩
 refine mv E rfl fun a E=>lw E (qao rfl rfl) fun a E=>pf E rfl rfl fun a E=>aw E rfl fun a E=>wp_ret ?_
 exact fin hF ⟨ok,E.d,rz E rfl⟩
def qit (u:World) (m0:Mem) (S:Segs) (r:(List UInt8)) (a:Act) (w:World):Prop :=
 Ok u m0 S w ∧ a.defers = [] ∧ RVs Tryz.prog a w [.t 2 (.string (bs r))] ∧ r.length ≤ LIMS
theorem qil (N:Nat) (s_0:List UInt8) (ls_0:s_0.length ≤ LIMS) {r:(List UInt8)} (hF:qc7 N s_0 = some r) (hG:Glob u) (ok:Ok u m0 S w) :
  Calls Tryz.prog 37 [vs s_0].toArray w fun e w'=>(e = .returned (.string (bs r)) ∧ Ok u m0 S w') ∧ r.length ≤ LIMS:=by
 unfold qc7 at hF
 refine en (qit u m0 S) r Tryz.func37 rfl rfl rfl (fun _ _ h=>rb h rfl) fun fin a E=>sg<|aw E rfl fun a E=>sg<|aw E rfl fun a E=>wp_seq<|sg<|av E rfl fun a E=>wn<|wp_block ?_
 obtain ⟨M6,ok,h7⟩:=qgr (e:=5) (k:=1) (R:=(pI .u8)) ok
 refine bd hF fun o8 hL hF=>qaX _ (fun (s:(List (Int)) × Int) a w=>∃ c9 M10,Ok u m0 (M10 :: S) w ∧ Env 26 a [(0,vs s_0),(3,c9),(4,vi s.2)] ∧ ORow 5 1 (pI .u8) m0 c9 s.1 M10 ∧ InR .i64 s.2) (fun (b:((List (Int)))) e a w=>e = (.exit 0) ∧ ∃ c53 M54,Ok u m0 (M54 :: S) w ∧ Env 26 a [(3,c53)] ∧ ORow 5 1 (pI .u8) m0 c53 b M54) ?_ ?_ N _ a w hL ⟨(Value.slice none 0 0),M6,ok,E.keep [0,3,4],h7,(ir 0)⟩
 rotate_left
 ·intro e a w _ hO
  obtain ⟨rfl,c50,M51,ok,E,h52⟩:=hO
  refine qba<|qaa<|sg<|mv E rfl fun a E=>lv E ok (qqR Tryz.underlying85 Tryz.underlying5 Tryz.underlying9 rfl (BR.ofRow h52 0 rfl)) fun a E=>av E rfl fun a E=>wn<|wp_ret ?_
  exact fin hF ⟨ok.drop,E.d,rz E rfl,(Nat.le_trans (Nat.le_of_eq qgb) h52.form.2)⟩
 rintro ⟨v13,v14⟩ a w r ⟨c15,M16,ok,E,h17,r18⟩ hF
 replace hF:qcp N s_0 v13 v14 = some r:=hF
 unfold qcp at hF
 refine wp_seq<|sg<|mz E rfl rfl fun a E=>lw E (qaG Tryz.underlying9 rfl) fun a E=>lw E (qaJ rfl rfl) fun a E=>wn<|cg E rfl hF (fun c19 hF=>?_) fun c19 hF=>?_
 ·refine wp_exit<|qaO ?_
  cases hF
  exact so (⟨rfl,⟨c15,M16,ok,E.keep [3],h17⟩⟩)
 refine wp_skip<|qaa<|wp_seq<|wp_block<|wp_seq<|sg<|mv E rfl fun a E=>mv E rfl fun a E=>bd hF fun c20 e21 hF=>lv E ok (qbM Tryz.underlying9 rfl rfl e21) fun a E=>bd hF fun r22 e23 hF=>lc E qrB rfl (qhO N (c20.toNat:Int) (InR.byte c20) e23 hG ok) fun w ok a E=>wn<|bd hF fun o24 hJ hF=>qaK (Q':=fun e a w=>e = .normal ∧ ∃ c25 M26,Ok u m0 (M26 :: S) w ∧ Env 26 a [(0,vs s_0),(3,c25),(4,vi v14)] ∧ ORow 5 1 (pI .u8) m0 c25 o24 M26) ?_ ?_
 ·have hF:=hJ
  refine cg E rfl hF (fun c28 hF=>?_) fun c28 hF=>?_
  ·refine wp_skip ?_
   cases hF
   exact ⟨rfl,⟨c15,M16,ok,E.keep [0,3,4],h17⟩⟩
  refine qab<|mv E rfl fun a E=>qcy (R:=(pI .u8)) (xo:=[.const (Value.int .u8 92)]) (xs:=([92]:List (Int))) E ok qjo qhR rfl ⟨⟨_,rfl,rfl,(qlC (show InR .u8 (92) by decide))⟩,trivial⟩ rfl rfl rfl rfl fun c29 M30 a w E ok h31=>bd hF fun l32 e33 hF=>qec (R:=(pI .u8)) E ok 1 (mI .u8) qjo Tryz.underlying85 rfl h17 (qb5.ofRow h31 0 rfl ok) e33 ⟨_,qhR,rfl⟩ rfl rfl rfl rfl fun c34 M35 a w E ok h36=>av E rfl fun a E=>wpList_nil ?_
  cases hF
  exact ⟨rfl,⟨c34,M35,(ok.pk 2 [1] rfl (by decide)),E.keep [0,3,4],h36⟩⟩
 intro e a w hO
 obtain ⟨rfl,c37,M38,ok,E,h39⟩:=hO
 refine qaa<|qab<|mz E rfl rfl fun a E=>mv E rfl fun a E=>bd hF fun c40 e41 hF=>lv E ok (qbM Tryz.underlying9 rfl rfl e41) fun a E=>qcy (R:=(pI .u8)) (xo:=[.tmp 21]) (xs:=([(c40.toNat:Int)]:List (Int))) E ok qjo qhR rfl ⟨⟨_,rfl,rfl,(qlC (InR.byte c40))⟩,trivial⟩ rfl rfl rfl rfl fun c42 M43 a w E ok h44=>bd hF fun l45 e46 hF=>qec (R:=(pI .u8)) E ok 1 (mI .u8) qjo Tryz.underlying85 rfl h39 (qb5.ofRow h44 0 rfl ok) e46 ⟨_,qhR,rfl⟩ rfl rfl rfl rfl fun c47 M48 a w E ok h49=>av E rfl fun a E=>wpList_nil<|qag<|qaa<|qab<|mv E rfl fun a E=>lw E (qau rfl rfl (InR.inc r18 (InR.len ls_0) c19)) fun a E=>av E rfl fun a E=>wpList_nil ?_
 cases hF
 exact qap ⟨c47,M48,(ok.pk 2 [1] rfl (by decide)),E.keep [0,3,4],h49,(InR.inc r18 (InR.len ls_0) c19)⟩
def qiX (u:World) (m0:Mem) (S:Segs) (r:(List UInt8)) (a:Act) (w:World):Prop :=
 Ok u m0 S w ∧ a.defers = [] ∧ RVs Tryz.prog a w [.t 4 (.string (bs r))] ∧ r.length ≤ LIMS
def qej (N:Nat):Prop:=∀ {u:World} {m0:Mem} {S:Segs} {w:World} (vparts_0:Value) (parts_0:List (Part)) (hparts_0:(pL 6 qbD) m0 [vparts_0] parts_0) (gap_1:List UInt8) (lgap_1:gap_1.length ≤ LIMS) {r:(List UInt8)} (hF:qbn N parts_0 gap_1 = some r) (hG:Glob u) (ok:Ok u m0 S w),Calls Tryz.prog 19 [vparts_0,vs gap_1].toArray w fun e w'=>(e = .returned (.string (bs r)) ∧ Ok u m0 S w') ∧ r.length ≤ LIMS
theorem qh7 (N:Nat) (ih_calqueref26_Text:qej N):qej (N + 1):=by
 intro u m0 S w vparts_0 parts_0 hparts_0 gap_1 lgap_1 r hF hG ok
 have hF0:qc6 (qbn N) N parts_0 gap_1 = some r:=hF
 have hF:=hF0
 clear hF0
 unfold qc6 at hF
 refine en (qiX u m0 S) r Tryz.func19 rfl rfl rfl (fun _ _ h=>rb h rfl) fun fin a E=>sg<|aw E rfl fun a E=>sg<|aw E rfl fun a E=>sg<|qcy (R:=pS) (xo:=[.const (vs ([110,117,109,98,101,114])),.const (vs ([117,110,105,116])),.const (vs ([100,97,116,101])),.const (vs ([108,105,115,116])),.const (vs ([112,108,117,114,97,108])),.const (vs ([111,114,100,105,110,97,108])),.const (vs ([115,101,108,101,99,116]))]) (xs:=([[110,117,109,98,101,114],[117,110,105,116],[100,97,116,101],[108,105,115,116],[112,108,117,114,97,108],[111,114,100,105,110,97,108],[115,101,108,101,99,116]]:List (List UInt8))) E ok qbx qb0 rfl ⟨⟨_,rfl,rfl,(qc9 (show ([110,117,109,98,101,114]:List UInt8).length ≤ LIMS by decide))⟩,⟨_,rfl,rfl,(qc9 (show ([117,110,105,116]:List UInt8).length ≤ LIMS by decide))⟩,⟨_,rfl,rfl,(qc9 (show ([100,97,116,101]:List UInt8).length ≤ LIMS by decide))⟩,⟨_,rfl,rfl,(qc9 (show ([108,105,115,116]:List UInt8).length ≤ LIMS by decide))⟩,⟨_,rfl,rfl,(qc9 (show ([112,108,117,114,97,108]:List UInt8).length ≤ LIMS by decide))⟩,⟨_,rfl,rfl,(qc9 (show ([111,114,100,105,110,97,108]:List UInt8).length ≤ LIMS by decide))⟩,⟨_,rfl,rfl,(qc9 (show ([115,101,108,101,99,116]:List UInt8).length ≤ LIMS by decide))⟩,trivial⟩ rfl rfl rfl rfl fun c1 M2 a w E ok h3=>av E rfl fun a E=>wn<|wp_seq<|sg<|aw E rfl fun a E=>wp_block<|bd hF fun o6 hL hF=>qaX _ (fun (s:(List UInt8) × Int) a w=>Ok u m0 (M2 :: S) w ∧ Env 154 a [(0,vparts_0),(1,vs gap_1),(5,vs s.1),(6,c1),(7,vi s.2)] ∧ s.1.length ≤ LIMS ∧ InR .i64 s.2) (fun (b:((List UInt8))) e a w=>e = (.exit 0) ∧ Ok u m0 (M2 :: S) w ∧ Env 154 a [(5,vs b)] ∧ b.length ≤ LIMS) ?_ ?_ N _ a w hL ⟨ok,E.keep [0,1,5,6,7],(show ([]:List UInt8).length ≤ LIMS by decide),(ir 0)⟩
 rotate_left
 ·intro e a w _ hO
  obtain ⟨rfl,ok,E,l287⟩:=hO
  refine qba<|qaa<|sg<|mv E rfl fun a E=>aw E rfl fun a E=>wp_ret ?_
  exact fin hF ⟨ok.drop,E.d,rz E rfl,l287⟩
 rintro ⟨v9,v10⟩ a w r ⟨ok,E,l11,r12⟩ hF
 replace hF:qci (qbn N) N parts_0 gap_1 v9 v10 = some r:=hF
 unfold qci at hF
 refine wp_seq<|sg<|mz E rfl rfl fun a E=>lv E ok (qax qbj hparts_0 rfl) fun a E=>lw E (qaJ rfl rfl) fun a E=>wn<|cg E rfl hF (fun c13 hF=>?_) fun c13 hF=>?_
 ·refine wp_exit<|qaO ?_
  cases hF
  exact so (⟨rfl,⟨ok,E.keep [5],l11⟩⟩)
 refine wp_skip<|qaa<|wp_seq<|wp_block<|sg<|mz E rfl rfl fun a E=>?_
 obtain ⟨x14,e15,hF⟩:=bnd hF
 obtain ⟨b16,o17,es18,hl19,rr20,at21,yy22⟩:=ia E 17 18 qbj hparts_0 e15
 obtain ⟨c27,c29,rfl,r23,l24,l25,l26,h28,h30⟩:=(qaL.1 rr20)
 refine lv E ok (yy22 _ _) fun a E=>lv E ok (qaj (cs:=[vi x14.Kind,vs x14.Text,vs x14.Name,vs x14.Style,c27,c29]) qep rfl rfl (qac.ro at21)) fun a E=>qbh E ok qeV rfl rfl fun b31 a w E ok=>qai E ok 0 rfl rfl rfl qgg rfl rfl ⟨rfl,rfl,rfl,rfl,(qcW h28),(qcW h30),trivial⟩ rfl rfl fun w ok=>wn<|wp_block<|sg<|fk E ok qar qat rfl 0 rfl rfl fun a E=>lw E (qao rfl rfl) fun a E=>aw E rfl fun a E=>cf E rfl hF (fun c32 hF=>?_) fun c32 hF=>?_
 ·refine qab<|mv E rfl fun a E=>fk E ok qbR qah rfl 0 rfl rfl fun a E=>bd hF fun r33 e34 hF=>qas E qrF rfl (qil N x14.Text l24 e34 hG ok) rfl rfl ?_
  rintro _ w ⟨⟨rfl,ok⟩,l35⟩
  refine ⟨_,rfl,fun a E=>?_⟩
  refine bd hF fun s36 e37 hF=>lw E (qaN rfl rfl e37) fun a E=>av E rfl fun a E=>wpList_nil<|qag<|qag<|qaa<|qab<|mv E rfl fun a E=>lw E (qau rfl rfl (InR.inc r12 (qae hparts_0) c13)) fun a E=>av E rfl fun a E=>wpList_nil ?_
  cases hF
  exact qap ⟨(ok.pk 2 [1] rfl (by decide)),E.keep [0,1,5,6,7],(qbZ e37),(InR.inc r12 (qae hparts_0) c13)⟩
 refine sg<|fk E ok qar qat rfl 0 rfl rfl fun a E=>lw E (qao rfl rfl) fun a E=>aw E rfl fun a E=>cf E rfl hF (fun c38 hF=>?_) fun c38 hF=>?_
 ·refine qab<|mv E rfl fun a E=>bd hF fun s39 e40 hF=>lw E (qaN rfl rfl e40) fun a E=>av E rfl fun a E=>wpList_nil<|qag<|qag<|qaa<|qab<|mv E rfl fun a E=>lw E (qau rfl rfl (InR.inc r12 (qae hparts_0) c13)) fun a E=>av E rfl fun a E=>wpList_nil ?_
  cases hF
  exact qap ⟨(ok.pk 2 [1] rfl (by decide)),E.keep [0,1,5,6,7],(qbZ e40),(InR.inc r12 (qae hparts_0) c13)⟩
 refine sg<|fk E ok qar qat rfl 0 rfl rfl fun a E=>lw E (qao rfl rfl) fun a E=>mv E rfl fun a E=>bw E 40 hF (fun c41 hF E=>?_) fun c41 hF E=>?_
 ·as_aux_lemma =>
   refine lsz E fun a E=>pf E rfl rfl fun a E=>aw E rfl fun a E=>c_if E rfl (fun h=>by cases h) (fun _=>?_)
   refine sg<|fk E ok qar qat rfl 0 rfl rfl fun a E=>lw E (qao rfl rfl) fun a E=>aw E rfl fun a E=>cf E rfl hF (fun c168 hF=>?_) fun c168 hF=>?_
   ·refine qdB (by kernel_rfl) (by kernel_rfl) ok<|qv E (qal rfl) fun a E=>qv E (qad qaw rfl) fun a E=>qv E (qak qah rfl (qac.own 0 rfl rfl)) fun a E=>bd hF fun s169 e170 hF=>qv E (qaN rfl rfl e170) fun a E=>bd hF fun s171 e172 hF=>qv E (qaN rfl rfl e172) fun a E=>qv E (qad qbs rfl) fun a E=>qv E (qak qa2 rfl (qac.own 0 rfl rfl)) fun a E=>qv E (qal rfl) fun a E=>?_
    obtain ⟨r173,e174,hF⟩:=bnd hF
    obtain ⟨_,_,⟨_,_⟩,l175⟩:=Go.X.Calls.get (ih_calqueref26_Text _ x14.Parts h30 gap_1 lgap_1 e174 hG ok)
    refine qcv E qke rfl (fun w ok=>(ih_calqueref26_Text _ x14.Parts h30 gap_1 lgap_1 e174 hG ok).mono (fun _ _ h=>h.1)) rfl rfl fun a E=>bd hF fun s176 e177 hF=>qv E (qaN rfl rfl e177) fun a E=>bd hF fun s178 e179 hF=>qv E (qaN rfl rfl e179) fun a E=>qv E (qad qaw rfl) fun a E=>qv E (qak qah rfl (qac.own 0 rfl rfl)) fun a E=>bd hF fun s180 e181 hF=>qv E (qaN rfl rfl e181) fun a E=>bd hF fun s182 e183 hF=>qv E (qaN rfl rfl e183) fun a E=>bd hF fun s184 e185 hF=>qv E (qaN rfl rfl e185) fun a E=>qv E (qa4 rfl) fun a E=>wpQuiet_nil ?_
    intro w ok
    refine qag<|qag<|qaa<|qab<|mv E rfl fun a E=>lw E (qau rfl rfl (InR.inc r12 (qae hparts_0) c13)) fun a E=>av E rfl fun a E=>wpList_nil ?_
    cases hF
    exact qap ⟨(ok.pk 2 [1] rfl (by decide)),E.keep [0,1,5,6,7],(qbZ e185),(InR.inc r12 (qae hparts_0) c13)⟩
   refine sg<|fk E ok qar qat rfl 0 rfl rfl fun a E=>lw E (qao rfl rfl) fun a E=>aw E rfl fun a E=>cf E rfl hF (fun c186 hF=>?_) fun c186 hF=>?_
   ·refine qab<|mv E rfl fun a E=>fk E ok qaw qah rfl 0 rfl rfl fun a E=>bd hF fun s187 e188 hF=>lw E (qaN rfl rfl e188) fun a E=>bd hF fun s189 e190 hF=>lw E (qaN rfl rfl e190) fun a E=>bd hF fun s191 e192 hF=>lw E (qaN rfl rfl e192) fun a E=>av E rfl fun a E=>wpList_nil<|qag<|qag<|qaa<|qab<|mv E rfl fun a E=>?_
    refine lw E (qau rfl rfl (InR.inc r12 (qae hparts_0) c13)) fun a E=>av E rfl fun a E=>wpList_nil ?_
    cases hF
    exact qap ⟨(ok.pk 2 [1] rfl (by decide)),E.keep [0,1,5,6,7],(qbZ e192),(InR.inc r12 (qae hparts_0) c13)⟩
   refine sg<|fk E ok qar qat rfl 0 rfl rfl fun a E=>lw E (qcB rfl rfl) fun a E=>mv E rfl fun a E=>bw E 86 hF (fun c193 hF E=>?_) fun c193 hF E=>?_
   ·refine lsq E fun a E=>ls E fun a E=>pf E rfl rfl fun a E=>aw E rfl fun a E=>c_if E rfl (fun h=>by cases h) (fun _=>?_)
    refine wp_skip<|qag<|qag<|qaa<|qab<|mv E rfl fun a E=>lw E (qau rfl rfl (InR.inc r12 (qae hparts_0) c13)) fun a E=>av E rfl fun a E=>wpList_nil ?_
    cases hF
    exact qap ⟨(ok.pk 2 [1] rfl (by decide)),E.keep [0,1,5,6,7],l11,(InR.inc r12 (qae hparts_0) c13)⟩
   refine fk E ok qar qat rfl 0 rfl rfl fun a E=>lw E (qcd rfl rfl) fun a E=>pt E rfl rfl fun a E=>aw E rfl fun a E=>cg E rfl hF (fun c194 hF=>?_) fun c194 hF=>?_
   ·refine wp_skip<|qag<|qag<|qaa<|qab<|mv E rfl fun a E=>lw E (qau rfl rfl (InR.inc r12 (qae hparts_0) c13)) fun a E=>av E rfl fun a E=>wpList_nil ?_
    cases hF
    exact qap ⟨(ok.pk 2 [1] rfl (by decide)),E.keep [0,1,5,6,7],l11,(InR.inc r12 (qae hparts_0) c13)⟩
   refine wp_seq<|qdB (by kernel_rfl) (by kernel_rfl) ok<|qv E (qal rfl) fun a E=>qv E (qad qaw rfl) fun a E=>qv E (qak qah rfl (qac.own 0 rfl rfl)) fun a E=>bd hF fun s195 e196 hF=>qv E (qaN rfl rfl e196) fun a E=>bd hF fun s197 e198 hF=>qv E (qaN rfl rfl e198) fun a E=>qv E (qal rfl) fun a E=>bd hF fun s199 e200 hF=>qv E (qaN rfl rfl e200) fun a E=>qv E (qal rfl) fun a E=>qv E (qad qar rfl) fun a E=>qv E (qak qat rfl (qac.own 0 rfl rfl)) fun a E=>qv E (qh0 rfl rfl) fun a E=>?_
   obtain ⟨x201,e202,hF⟩:=bnd hF
   obtain ⟨b203,o204,hp205,yy206⟩:=qdd qbx h3 e202 (P:=Tryz.prog) (X:=.tmp 98) (I:=.tmp 101) (kd:=.i64) (qaS E rfl) (qaS E rfl)
   refine qv E (yy206 _ _) fun a E=>?_
   obtain ⟨es207,hl208,rr209,hh210⟩:=qeT h3 e202 hp205 (by decide)
   obtain ⟨rfl,l211⟩:=rr209
   refine qv E (qak qah rfl (hh210 _ _ _ 1 rfl)) fun a E=>bd hF fun s212 e213 hF=>qv E (qaN rfl rfl e213) fun a E=>bd hF fun s214 e215 hF=>qv E (qaN rfl rfl e215) fun a E=>qv E (qa4 rfl) fun a E=>wpQuiet_nil ?_
   intro w ok
   refine qaa<|wp_seq<|sg<|fk E ok qaT qah rfl 0 rfl rfl fun a E=>lw E (qbB rfl rfl) fun a E=>wn<|bd hF fun o216 hJ hF=>qaK (Q':=fun e a w=>e = .normal ∧ Ok u m0 ([(b31,oc 63 [vi x14.Kind,vs x14.Text,vs x14.Name,vs x14.Style,c27,c29])] :: M2 :: S) w ∧ Env 154 a [(0,vparts_0),(1,vs gap_1),(5,vs o216),(6,c1),(7,vi v10),(8,vp b31)] ∧ o216.length ≤ LIMS) ?_ ?_
   ·have hF:=hJ
    refine cg E rfl hF (fun c218 hF=>?_) fun c218 hF=>?_
    ·refine wp_skip ?_
     cases hF
     exact ⟨rfl,⟨ok,E.keep [0,1,5,6,7,8],(qbZ e215)⟩⟩
    refine qab<|mz E rfl rfl fun a E=>bd hF fun s219 e220 hF=>lw E (qaN rfl rfl e220) fun a E=>fk E ok qaT qah rfl 0 rfl rfl fun a E=>bd hF fun s221 e222 hF=>lw E (qaN rfl rfl e222) fun a E=>bd hF fun s223 e224 hF=>lw E (qaN rfl rfl e224) fun a E=>av E rfl fun a E=>wpList_nil ?_
    cases hF
    exact ⟨rfl,⟨ok,E.keep [0,1,5,6,7,8],(qbZ e224)⟩⟩
   intro e a w hO
   obtain ⟨rfl,ok,E,l225⟩:=hO
   refine qaa<|wp_seq<|sg<|fk E ok qar qat rfl 0 rfl rfl fun a E=>bd hF fun r226 e227 hF=>lc E qjZ rfl (qcJ N x14.Kind r23 e227 hG ok) fun w ok a E=>wn<|bd hF fun o228 hJ hF=>qaK (Q':=fun e a w=>e = .normal ∧ Ok u m0 ([(b31,oc 63 [vi x14.Kind,vs x14.Text,vs x14.Name,vs x14.Style,c27,c29])] :: M2 :: S) w ∧ Env 154 a [(0,vparts_0),(1,vs gap_1),(5,vs o228),(6,c1),(7,vi v10),(8,vp b31)] ∧ o228.length ≤ LIMS) ?_ ?_
   ·have hF:=hJ
    refine cg E rfl hF (fun c230 hF=>?_) fun c230 hF=>?_
    ·refine wp_skip ?_
     cases hF
     exact ⟨rfl,⟨ok,E.keep [0,1,5,6,7,8],l225⟩⟩
    refine qab<|mv E rfl fun a E=>bd hF fun s231 e232 hF=>lw E (qaN rfl rfl e232) fun a E=>av E rfl fun a E=>wpList_nil ?_
    cases hF
    exact ⟨rfl,⟨ok,E.keep [0,1,5,6,7,8],(qbZ e232)⟩⟩
   intro e a w hO
   obtain ⟨rfl,ok,E,l233⟩:=hO
   refine qaa<|wp_seq<|sg<|aw E rfl fun a E=>wp_block<|bd hF fun o236 hL hF=>qaX _ (fun (s:(List UInt8) × Int) a w=>Ok u m0 ([(b31,oc 63 [vi x14.Kind,vs x14.Text,vs x14.Name,vs x14.Style,c27,c29])] :: M2 :: S) w ∧ Env 154 a [(0,vparts_0),(1,vs gap_1),(5,vs s.1),(6,c1),(7,vi v10),(8,vp b31),(9,vi s.2)] ∧ s.1.length ≤ LIMS ∧ InR .i64 s.2) (fun (b:((List UInt8))) e a w=>e = (.exit 3) ∧ Ok u m0 ([(b31,oc 63 [vi x14.Kind,vs x14.Text,vs x14.Name,vs x14.Style,c27,c29])] :: M2 :: S) w ∧ Env 154 a [(0,vparts_0),(1,vs gap_1),(5,vs b),(6,c1),(7,vi v10)] ∧ b.length ≤ LIMS) ?_ ?_ N _ a w hL ⟨ok,E.keep [0,1,5,6,7,8,9],l233,(ir 0)⟩
   rotate_left
   ·intro e a w _ hO
    obtain ⟨rfl,ok,E,l283⟩:=hO
    refine qba<|qaa<|qab<|mv E rfl fun a E=>bd hF fun s284 e285 hF=>lw E (qaN rfl rfl e285) fun a E=>av E rfl fun a E=>wpList_nil<|qag<|qag<|qaa<|qab<|mv E rfl fun a E=>lw E (qau rfl rfl (InR.inc r12 (qae hparts_0) c13)) fun a E=>av E rfl fun a E=>wpList_nil ?_
    cases hF
    exact qap ⟨(ok.pk 2 [1] rfl (by decide)),E.keep [0,1,5,6,7],(qbZ e285),(InR.inc r12 (qae hparts_0) c13)⟩
   rintro ⟨v239,v240⟩ a w r ⟨ok,E,l241,r242⟩ hF
   replace hF:qeb (qbn N) N gap_1 x14 v239 v240 = some r:=hF
   unfold qeb at hF
   refine wp_seq<|sg<|mv E rfl fun a E=>fk E ok qaR qaZ rfl 0 rfl rfl fun a E=>lv E ok (qax qbe h28 rfl) fun a E=>lw E (qaJ rfl rfl) fun a E=>wn<|cg E rfl hF (fun c243 hF=>?_) fun c243 hF=>?_
   ·refine wp_exit<|qaO ?_
    cases hF
    exact so (⟨rfl,⟨ok,E.keep [0,1,5,6,7],l241⟩⟩)
   refine wp_skip<|qaa<|wp_seq<|wp_block<|qdB (by kernel_rfl) (by kernel_rfl) ok<|qv E (qal rfl) fun a E=>qv E (qal rfl) fun a E=>qv E (qad qaR rfl) fun a E=>qv E (qak qaZ rfl (qac.own 0 rfl rfl)) fun a E=>qv E (qal rfl) fun a E=>?_
   obtain ⟨x244,e245,hF⟩:=bnd hF
   obtain ⟨b246,o247,es248,hl249,rr250,at251,yy252⟩:=ia E 131 132 qbe h28 e245
   obtain ⟨c254,rfl,l253,h255⟩:=rr250
   refine qv E (yy252 _ _) fun a E=>qv E (qad qcr rfl) fun a E=>qv E (qak qah rfl (qac.ro (At.sub 0 1 at251))) fun a E=>bd hF fun s256 e257 hF=>qv E (qaN rfl rfl e257) fun a E=>qv E (qal rfl) fun a E=>bd hF fun s258 e259 hF=>qv E (qaN rfl rfl e259) fun a E=>bd hF fun s260 e261 hF=>qv E (qaN rfl rfl e261) fun a E=>qv E (qad qaR rfl) fun a E=>qv E (qak qaZ rfl (qac.own 0 rfl rfl)) fun a E=>qv E (qal rfl) fun a E=>?_
   obtain ⟨x262,e263,hF⟩:=bnd hF
   obtain ⟨b264,o265,es266,hl267,rr268,at269,yy270⟩:=ia E 141 142 qbe h28 e263
   obtain ⟨c272,rfl,l271,h273⟩:=rr268
   refine qv E (yy270 _ _) fun a E=>qv E (qad qdP rfl) fun a E=>qv E (qak qa2 rfl (qac.ro (At.sub 1 1 at269))) fun a E=>qv E (qal rfl) fun a E=>?_
   obtain ⟨r274,e275,hF⟩:=bnd hF
   obtain ⟨_,_,⟨_,_⟩,l276⟩:=Go.X.Calls.get (ih_calqueref26_Text _ x262.Parts h273 gap_1 lgap_1 e275 hG ok)
   refine qcv E qke rfl (fun w ok=>(ih_calqueref26_Text _ x262.Parts h273 gap_1 lgap_1 e275 hG ok).mono (fun _ _ h=>h.1)) rfl rfl fun a E=>bd hF fun s277 e278 hF=>qv E (qaN rfl rfl e278) fun a E=>bd hF fun s279 e280 hF=>qv E (qaN rfl rfl e280) fun a E=>bd hF fun s281 e282 hF=>qv E (qaN rfl rfl e282) fun a E=>qv E (qa4 rfl) fun a E=>wpQuiet_nil ?_
   intro w ok
   refine qag<|qaa<|qab<|mv E rfl fun a E=>lw E (qau rfl rfl (InR.inc r242 (qae h28) c243)) fun a E=>av E rfl fun a E=>wpList_nil ?_
   cases hF
   exact qap ⟨ok,E.keep [0,1,5,6,7,8,9],(qbZ e282),(InR.inc r242 (qae h28) c243)⟩
 refine fk E ok qbs qa2 rfl 0 rfl rfl fun a E=>lv E ok (qax qbj h30 rfl) fun a E=>lw E (qao rfl rfl) fun a E=>pt E rfl rfl fun a E=>aw E rfl fun a E=>cf E rfl hF (fun c42 hF=>?_) fun c42 hF=>?_
 ·refine qab<|mv E rfl fun a E=>fk E ok qaw qah rfl 0 rfl rfl fun a E=>bd hF fun s43 e44 hF=>lw E (qaN rfl rfl e44) fun a E=>bd hF fun s45 e46 hF=>lw E (qaN rfl rfl e46) fun a E=>bd hF fun s47 e48 hF=>lw E (qaN rfl rfl e48) fun a E=>av E rfl fun a E=>wpList_nil<|qag<|qag<|qaa<|qab<|mv E rfl fun a E=>?_
  refine lw E (qau rfl rfl (InR.inc r12 (qae hparts_0) c13)) fun a E=>av E rfl fun a E=>wpList_nil ?_
  cases hF
  exact qap ⟨(ok.pk 2 [1] rfl (by decide)),E.keep [0,1,5,6,7],(qbZ e48),(InR.inc r12 (qae hparts_0) c13)⟩
 refine sg<|fk E ok qar qat rfl 0 rfl rfl fun a E=>lw E (qao rfl rfl) fun a E=>aw E rfl fun a E=>cf E rfl hF (fun c49 hF=>?_) fun c49 hF=>?_
 ·refine qdB (by kernel_rfl) (by kernel_rfl) ok<|qv E (qal rfl) fun a E=>qv E (qad qaw rfl) fun a E=>qv E (qak qah rfl (qac.own 0 rfl rfl)) fun a E=>bd hF fun s50 e51 hF=>qv E (qaN rfl rfl e51) fun a E=>bd hF fun s52 e53 hF=>qv E (qaN rfl rfl e53) fun a E=>qv E (qad qbs rfl) fun a E=>qv E (qak qa2 rfl (qac.own 0 rfl rfl)) fun a E=>qv E (qal rfl) fun a E=>?_
  obtain ⟨r54,e55,hF⟩:=bnd hF
  obtain ⟨_,_,⟨_,_⟩,l56⟩:=Go.X.Calls.get (ih_calqueref26_Text _ x14.Parts h30 gap_1 lgap_1 e55 hG ok)
  refine qcv E qke rfl (fun w ok=>(ih_calqueref26_Text _ x14.Parts h30 gap_1 lgap_1 e55 hG ok).mono (fun _ _ h=>h.1)) rfl rfl fun a E=>bd hF fun s57 e58 hF=>qv E (qaN rfl rfl e58) fun a E=>bd hF fun s59 e60 hF=>qv E (qaN rfl rfl e60) fun a E=>qv E (qad qaw rfl) fun a E=>qv E (qak qah rfl (qac.own 0 rfl rfl)) fun a E=>bd hF fun s61 e62 hF=>qv E (qaN rfl rfl e62) fun a E=>bd hF fun s63 e64 hF=>qv E (qaN rfl rfl e64) fun a E=>bd hF fun s65 e66 hF=>qv E (qaN rfl rfl e66) fun a E=>qv E (qa4 rfl) fun a E=>wpQuiet_nil ?_
  intro w ok
  refine qag<|qag<|qaa<|qab<|mv E rfl fun a E=>lw E (qau rfl rfl (InR.inc r12 (qae hparts_0) c13)) fun a E=>av E rfl fun a E=>wpList_nil ?_
  cases hF
  exact qap ⟨(ok.pk 2 [1] rfl (by decide)),E.keep [0,1,5,6,7],(qbZ e66),(InR.inc r12 (qae hparts_0) c13)⟩
 refine sg<|fk E ok qar qat rfl 0 rfl rfl fun a E=>lw E (qao rfl rfl) fun a E=>aw E rfl fun a E=>cf E rfl hF (fun c67 hF=>?_) fun c67 hF=>?_
 ·refine qab<|mv E rfl fun a E=>fk E ok qaw qah rfl 0 rfl rfl fun a E=>bd hF fun s68 e69 hF=>lw E (qaN rfl rfl e69) fun a E=>bd hF fun s70 e71 hF=>lw E (qaN rfl rfl e71) fun a E=>bd hF fun s72 e73 hF=>lw E (qaN rfl rfl e73) fun a E=>av E rfl fun a E=>wpList_nil<|qag<|qag<|qaa<|qab<|mv E rfl fun a E=>?_
  refine lw E (qau rfl rfl (InR.inc r12 (qae hparts_0) c13)) fun a E=>av E rfl fun a E=>wpList_nil ?_
  cases hF
  exact qap ⟨(ok.pk 2 [1] rfl (by decide)),E.keep [0,1,5,6,7],(qbZ e73),(InR.inc r12 (qae hparts_0) c13)⟩
 refine sg<|fk E ok qar qat rfl 0 rfl rfl fun a E=>lw E (qcB rfl rfl) fun a E=>mv E rfl fun a E=>bw E 86 hF (fun c74 hF E=>?_) fun c74 hF E=>?_
 ·refine lsq E fun a E=>ls E fun a E=>pf E rfl rfl fun a E=>aw E rfl fun a E=>c_if E rfl (fun h=>by cases h) (fun _=>?_)
  refine wp_skip<|qag<|qag<|qaa<|qab<|mv E rfl fun a E=>lw E (qau rfl rfl (InR.inc r12 (qae hparts_0) c13)) fun a E=>av E rfl fun a E=>wpList_nil ?_
  cases hF
  exact qap ⟨(ok.pk 2 [1] rfl (by decide)),E.keep [0,1,5,6,7],l11,(InR.inc r12 (qae hparts_0) c13)⟩
 refine fk E ok qar qat rfl 0 rfl rfl fun a E=>lw E (qcd rfl rfl) fun a E=>pt E rfl rfl fun a E=>aw E rfl fun a E=>cg E rfl hF (fun c75 hF=>?_) fun c75 hF=>?_
 ·refine wp_skip<|qag<|qag<|qaa<|qab<|mv E rfl fun a E=>lw E (qau rfl rfl (InR.inc r12 (qae hparts_0) c13)) fun a E=>av E rfl fun a E=>wpList_nil ?_
  cases hF
  exact qap ⟨(ok.pk 2 [1] rfl (by decide)),E.keep [0,1,5,6,7],l11,(InR.inc r12 (qae hparts_0) c13)⟩
 refine wp_seq<|qdB (by kernel_rfl) (by kernel_rfl) ok<|qv E (qal rfl) fun a E=>qv E (qad qaw rfl) fun a E=>qv E (qak qah rfl (qac.own 0 rfl rfl)) fun a E=>bd hF fun s76 e77 hF=>qv E (qaN rfl rfl e77) fun a E=>bd hF fun s78 e79 hF=>qv E (qaN rfl rfl e79) fun a E=>qv E (qal rfl) fun a E=>bd hF fun s80 e81 hF=>qv E (qaN rfl rfl e81) fun a E=>qv E (qal rfl) fun a E=>qv E (qad qar rfl) fun a E=>qv E (qak qat rfl (qac.own 0 rfl rfl)) fun a E=>qv E (qh0 rfl rfl) fun a E=>?_
 obtain ⟨x82,e83,hF⟩:=bnd hF
 obtain ⟨b84,o85,hp86,yy87⟩:=qdd qbx h3 e83 (P:=Tryz.prog) (X:=.tmp 98) (I:=.tmp 101) (kd:=.i64) (qaS E rfl) (qaS E rfl)
 refine qv E (yy87 _ _) fun a E=>?_
 obtain ⟨es88,hl89,rr90,hh91⟩:=qeT h3 e83 hp86 (by decide)
 obtain ⟨rfl,l92⟩:=rr90
 refine qv E (qak qah rfl (hh91 _ _ _ 1 rfl)) fun a E=>bd hF fun s93 e94 hF=>qv E (qaN rfl rfl e94) fun a E=>bd hF fun s95 e96 hF=>qv E (qaN rfl rfl e96) fun a E=>qv E (qa4 rfl) fun a E=>wpQuiet_nil ?_
 intro w ok
 refine qaa<|wp_seq<|sg<|fk E ok qaT qah rfl 0 rfl rfl fun a E=>lw E (qbB rfl rfl) fun a E=>wn<|bd hF fun o97 hJ hF=>qaK (Q':=fun e a w=>e = .normal ∧ Ok u m0 ([(b31,oc 63 [vi x14.Kind,vs x14.Text,vs x14.Name,vs x14.Style,c27,c29])] :: M2 :: S) w ∧ Env 154 a [(0,vparts_0),(1,vs gap_1),(5,vs o97),(6,c1),(7,vi v10),(8,vp b31)] ∧ o97.length ≤ LIMS) ?_ ?_
 ·have hF:=hJ
  refine cg E rfl hF (fun c99 hF=>?_) fun c99 hF=>?_
  ·refine wp_skip ?_
   cases hF
   exact ⟨rfl,⟨ok,E.keep [0,1,5,6,7,8],(qbZ e96)⟩⟩
  refine qab<|mz E rfl rfl fun a E=>bd hF fun s100 e101 hF=>lw E (qaN rfl rfl e101) fun a E=>fk E ok qaT qah rfl 0 rfl rfl fun a E=>bd hF fun s102 e103 hF=>lw E (qaN rfl rfl e103) fun a E=>bd hF fun s104 e105 hF=>lw E (qaN rfl rfl e105) fun a E=>av E rfl fun a E=>wpList_nil ?_
  cases hF
  exact ⟨rfl,⟨ok,E.keep [0,1,5,6,7,8],(qbZ e105)⟩⟩
 intro e a w hO
 obtain ⟨rfl,ok,E,l106⟩:=hO
 refine qaa<|wp_seq<|sg<|fk E ok qar qat rfl 0 rfl rfl fun a E=>bd hF fun r107 e108 hF=>lc E qjZ rfl (qcJ N x14.Kind r23 e108 hG ok) fun w ok a E=>wn<|bd hF fun o109 hJ hF=>qaK (Q':=fun e a w=>e = .normal ∧ Ok u m0 ([(b31,oc 63 [vi x14.Kind,vs x14.Text,vs x14.Name,vs x14.Style,c27,c29])] :: M2 :: S) w ∧ Env 154 a [(0,vparts_0),(1,vs gap_1),(5,vs o109),(6,c1),(7,vi v10),(8,vp b31)] ∧ o109.length ≤ LIMS) ?_ ?_
 ·have hF:=hJ
  refine cg E rfl hF (fun c111 hF=>?_) fun c111 hF=>?_
  ·refine wp_skip ?_
   cases hF
   exact ⟨rfl,⟨ok,E.keep [0,1,5,6,7,8],l106⟩⟩
  refine qab<|mv E rfl fun a E=>bd hF fun s112 e113 hF=>lw E (qaN rfl rfl e113) fun a E=>av E rfl fun a E=>wpList_nil ?_
  cases hF
  exact ⟨rfl,⟨ok,E.keep [0,1,5,6,7,8],(qbZ e113)⟩⟩
 intro e a w hO
 obtain ⟨rfl,ok,E,l114⟩:=hO
 refine qaa<|wp_seq<|sg<|aw E rfl fun a E=>wp_block<|bd hF fun o117 hL hF=>qaX _ (fun (s:(List UInt8) × Int) a w=>Ok u m0 ([(b31,oc 63 [vi x14.Kind,vs x14.Text,vs x14.Name,vs x14.Style,c27,c29])] :: M2 :: S) w ∧ Env 154 a [(0,vparts_0),(1,vs gap_1),(5,vs s.1),(6,c1),(7,vi v10),(8,vp b31),(9,vi s.2)] ∧ s.1.length ≤ LIMS ∧ InR .i64 s.2) (fun (b:((List UInt8))) e a w=>e = (.exit 3) ∧ Ok u m0 ([(b31,oc 63 [vi x14.Kind,vs x14.Text,vs x14.Name,vs x14.Style,c27,c29])] :: M2 :: S) w ∧ Env 154 a [(0,vparts_0),(1,vs gap_1),(5,vs b),(6,c1),(7,vi v10)] ∧ b.length ≤ LIMS) ?_ ?_ N _ a w hL ⟨ok,E.keep [0,1,5,6,7,8,9],l114,(ir 0)⟩
 rotate_left
 ·intro e a w _ hO
  obtain ⟨rfl,ok,E,l164⟩:=hO
  refine qba<|qaa<|qab<|mv E rfl fun a E=>bd hF fun s165 e166 hF=>lw E (qaN rfl rfl e166) fun a E=>av E rfl fun a E=>wpList_nil<|qag<|qag<|qaa<|qab<|mv E rfl fun a E=>lw E (qau rfl rfl (InR.inc r12 (qae hparts_0) c13)) fun a E=>av E rfl fun a E=>wpList_nil ?_
  cases hF
  exact qap ⟨(ok.pk 2 [1] rfl (by decide)),E.keep [0,1,5,6,7],(qbZ e166),(InR.inc r12 (qae hparts_0) c13)⟩
 rintro ⟨v120,v121⟩ a w r ⟨ok,E,l122,r123⟩ hF
 replace hF:qbW (qbn N) N gap_1 x14 v120 v121 = some r:=hF
 unfold qbW at hF
 refine wp_seq<|sg<|mv E rfl fun a E=>fk E ok qaR qaZ rfl 0 rfl rfl fun a E=>lv E ok (qax qbe h28 rfl) fun a E=>lw E (qaJ rfl rfl) fun a E=>wn<|cg E rfl hF (fun c124 hF=>?_) fun c124 hF=>?_
 ·refine wp_exit<|qaO ?_
  cases hF
  exact so (⟨rfl,⟨ok,E.keep [0,1,5,6,7],l122⟩⟩)
 refine wp_skip<|qaa<|wp_seq<|wp_block<|qdB (by kernel_rfl) (by kernel_rfl) ok<|qv E (qal rfl) fun a E=>qv E (qal rfl) fun a E=>qv E (qad qaR rfl) fun a E=>qv E (qak qaZ rfl (qac.own 0 rfl rfl)) fun a E=>qv E (qal rfl) fun a E=>?_
 obtain ⟨x125,e126,hF⟩:=bnd hF
 obtain ⟨b127,o128,es129,hl130,rr131,at132,yy133⟩:=ia E 131 132 qbe h28 e126
 obtain ⟨c135,rfl,l134,h136⟩:=rr131
 refine qv E (yy133 _ _) fun a E=>qv E (qad qcr rfl) fun a E=>qv E (qak qah rfl (qac.ro (At.sub 0 1 at132))) fun a E=>bd hF fun s137 e138 hF=>qv E (qaN rfl rfl e138) fun a E=>qv E (qal rfl) fun a E=>bd hF fun s139 e140 hF=>qv E (qaN rfl rfl e140) fun a E=>bd hF fun s141 e142 hF=>qv E (qaN rfl rfl e142) fun a E=>qv E (qad qaR rfl) fun a E=>qv E (qak qaZ rfl (qac.own 0 rfl rfl)) fun a E=>qv E (qal rfl) fun a E=>?_
 obtain ⟨x143,e144,hF⟩:=bnd hF
 obtain ⟨b145,o146,es147,hl148,rr149,at150,yy151⟩:=ia E 141 142 qbe h28 e144
 obtain ⟨c153,rfl,l152,h154⟩:=rr149
 refine qv E (yy151 _ _) fun a E=>qv E (qad qdP rfl) fun a E=>qv E (qak qa2 rfl (qac.ro (At.sub 1 1 at150))) fun a E=>qv E (qal rfl) fun a E=>?_
 obtain ⟨r155,e156,hF⟩:=bnd hF
 obtain ⟨_,_,⟨_,_⟩,l157⟩:=Go.X.Calls.get (ih_calqueref26_Text _ x143.Parts h154 gap_1 lgap_1 e156 hG ok)
 refine qcv E qke rfl (fun w ok=>(ih_calqueref26_Text _ x143.Parts h154 gap_1 lgap_1 e156 hG ok).mono (fun _ _ h=>h.1)) rfl rfl fun a E=>bd hF fun s158 e159 hF=>qv E (qaN rfl rfl e159) fun a E=>bd hF fun s160 e161 hF=>qv E (qaN rfl rfl e161) fun a E=>bd hF fun s162 e163 hF=>qv E (qaN rfl rfl e163) fun a E=>qv E (qa4 rfl) fun a E=>wpQuiet_nil ?_
 intro w ok
 refine qag<|qaa<|qab<|mv E rfl fun a E=>lw E (qau rfl rfl (InR.inc r123 (qae h28) c124)) fun a E=>av E rfl fun a E=>wpList_nil ?_
 cases hF
 exact qap ⟨ok,E.keep [0,1,5,6,7,8,9],(qbZ e163),(InR.inc r123 (qae h28) c124)⟩
theorem qh3:qej 0:=by
 intro u m0 S w vparts_0 parts_0 hparts_0 gap_1 lgap_1 r hF hG ok
 replace hF:none = some r:=hF
 cases hF
theorem qg4 (N:Nat):qej N:=by
 induction N with
 | zero=>exact qh3
 | succ N h=>exact qh7 N h
theorem qji {u:World} {m0:Mem} {S:Segs} {w:World} (N:Nat) (vparts_0:Value) (parts_0:List (Part)) (hparts_0:(pL 6 qbD) m0 [vparts_0] parts_0) (gap_1:List UInt8) (lgap_1:gap_1.length ≤ LIMS) {r:(List UInt8)} (hF:qbn N parts_0 gap_1 = some r) (hG:Glob u) (ok:Ok u m0 S w) :
 Calls Tryz.prog 19 [vparts_0,vs gap_1].toArray w fun e w'=>(e = .returned (.string (bs r)) ∧ Ok u m0 S w') ∧ r.length ≤ LIMS:=(qg4 N) vparts_0 parts_0 hparts_0 gap_1 lgap_1 hF hG ok
def qiK (u:World) (m0:Mem) (S:Segs) (r:Bool) (a:Act) (w:World):Prop :=
 Ok u m0 S w ∧ a.defers = [] ∧ RVs Tryz.prog a w [.t 2 (.bool r)]
theorem qiF (N:Nat) (vparts_0:Value) (parts_0:List (Part)) (hparts_0:(pL 6 qbD) m0 [vparts_0] parts_0) {r:Bool} (hF:qdT N parts_0 = some r) (hG:Glob u) (ok:Ok u m0 S w) :
  Calls Tryz.prog 7 [vparts_0].toArray w fun e w'=>(e = .returned (.bool r) ∧ Ok u m0 S w'):=by
 have hb0:=ok.base
 have le_m0:=Mem.le.refl m0
 unfold qdT at hF
 refine en (qiK u m0 S) r Tryz.func7 rfl rfl rfl (fun _ _ h=>ra h rfl) fun fin a E=>sg<|aw E rfl fun a E=>sg<|mv E rfl fun a E=>bd hF fun r1 e2 hF=>lc E qf7 rfl (qiw N _ parts_0 hparts_0 1 (ir 1) false e2 hG ok) fun w ok a E=>mv E rfl fun a E=>qaW r1 (fun c3=>?_) (fun c3=>?_)
 rotate_left
 ·have hF:=qaV c3 hF
  have E:=E.upd 5 c3 rfl
  refine lsz E fun a E=>pf E rfl rfl fun a E=>mv E rfl fun a E=>lsz E fun a E=>pf E rfl rfl fun a E=>aw E rfl fun a E=>wp_ret ?_
  exact fin hF ⟨ok,E.d,rz E rfl⟩
 have hF:=qaU c3 hF
 have E:=E.upd 5 c3 rfl
 refine mv E rfl fun a E=>bd hF fun r4 e5 hF=>qas E qik rfl (qiO N _ parts_0 hparts_0 _ ([]) qfQ e5 hG ok) rfl rfl ?_
 rintro _ w ⟨m6,c7,rfl,hle,ok,h8⟩
 have le_m0:=le_m0.trans hle
 have hparts_0:=(mL qaq).up hle hparts_0
 refine ⟨_,rfl,fun a E=>?_⟩
 refine lv E ok (qax qbx h8 rfl) fun a E=>lw E (qcd rfl rfl) fun a E=>pt E rfl rfl fun a E=>mv E rfl fun a E=>bw E 11 hF (fun c9 hF E=>?_) fun c9 hF E=>?_
 ·refine lsz E fun a E=>pf E rfl rfl fun a E=>aw E rfl fun a E=>wp_ret ?_
  exact fin hF ⟨(ok).down hb0 le_m0,E.d,rz E rfl⟩
 refine mv E rfl fun a E=>bd hF fun r10 e11 hF=>qas E qke rfl (qji N _ parts_0 hparts_0 ([32]) (show ([32]:List UInt8).length ≤ LIMS by decide) e11 hG ok) rfl rfl ?_
 rintro _ w ⟨⟨rfl,ok⟩,l12⟩
 refine ⟨_,rfl,fun a E=>?_⟩
 refine lw E (qaG Tryz.underlying9 rfl) fun a E=>lw E (qcd rfl rfl) fun a E=>pt E rfl rfl fun a E=>aw E rfl fun a E=>wp_ret ?_
 exact fin hF ⟨(ok).down hb0 le_m0,E.d,rz E rfl⟩
end Go.Proofs.YtmghnmfefpeelaaGreatDoor
namespace Go.Proofs.YtmghnmfefpeelaaGreatDoor
open Go.X
variable {u:World} {m0:Mem} {S:Segs} {w:World}
set_option maxHeartbeats 4000000
set_option maxRecDepth 100000
def qlI:Rp Flow:=fun m cs x=>∃ c0 c1 c2 c3 c4,cs = [c0,c1,c2,c3,c4] ∧ (pL 1 pS) m [c0] x.c.Names ∧ (pL 4 pIns) m [c1] x.c.Ins ∧ (pL 1 (pK 1 pS)) m [c2] x.open_ ∧ (pL 1 pB) m [c3] x.reached ∧ (pL 1 pB) m [c4] x.clash
theorem qqZ:Mono qlI:=⟨fun hm h=>by
 obtain ⟨c0,c1,c2,c3,c4,e,h0,h1,h2,h3,h4⟩:=h
 exact ⟨c0,c1,c2,c3,c4,e,(mL mS).up hm h0,(mL mIns).up hm h1,(mL (mK mS)).up hm h2,(mL mB).up hm h3,(mL mB).up hm h4⟩,fun h=>by
 obtain ⟨c0,c1,c2,c3,c4,rfl,h0,h1,h2,h3,h4⟩:=h
 exact ⟨((mL mS).one h0).1,((mL mIns).one h1).1,((mL (mK mS)).one h2).1,((mL mB).one h3).1,((mL mB).one h4).1,trivial⟩⟩
def qpu:Rp Uses:=fun _ cs x=>cs = [.bool x.a,.bool x.b,.bool x.s]
theorem qkt:aggB Tryz.prog 56 3 = true:=by kernel_rfl
theorem qog:ArT Tryz.prog 76 56 14 3:=ArT.of (by kernel_rfl)
theorem qeB:qaI Tryz.prog 38 0 0 = true:=by kernel_rfl
theorem qjx:qaI Tryz.prog 38 2 2 = true:=by kernel_rfl
theorem qdy:qaI Tryz.prog 38 3 3 = true:=by kernel_rfl
theorem qm1:qaI Tryz.prog 54 0 0 = true:=by kernel_rfl
theorem qk6:qaI Tryz.prog 54 1 2 = true:=by kernel_rfl
theorem qhK:qaI Tryz.prog 54 2 3 = true:=by kernel_rfl
theorem qhJ:qaI Tryz.prog 54 3 4 = true:=by kernel_rfl
theorem qqf:qaI Tryz.prog 56 0 0 = true:=by kernel_rfl
theorem qmV:qaI Tryz.prog 56 1 1 = true:=by kernel_rfl
theorem qjv:qaI Tryz.prog 56 2 2 = true:=by kernel_rfl
theorem qkS:qaI Tryz.prog 89 0 0 = true:=by kernel_rfl
theorem qkG:qaI Tryz.prog 89 1 1 = true:=by kernel_rfl
theorem qpy:goB Tryz.prog 10 = true:=by kernel_rfl
theorem qpn:goB Tryz.prog 20 = true:=by kernel_rfl
theorem qrr:goB Tryz.prog 21 = true:=by kernel_rfl
theorem qqW:goB Tryz.prog 23 = true:=by kernel_rfl
theorem qrh:goB Tryz.prog 24 = true:=by kernel_rfl
theorem qnw:goB Tryz.prog 25 = true:=by kernel_rfl
theorem qrA:goB Tryz.prog 38 = true:=by kernel_rfl
theorem qra:goB Tryz.prog 39 = true:=by kernel_rfl
theorem qpk:goB Tryz.prog 41 = true:=by kernel_rfl
theorem qrn:goB Tryz.prog 42 = true:=by kernel_rfl
theorem qkd:goB Tryz.prog 52 = true:=by kernel_rfl
theorem qqY:goB Tryz.prog 54 = true:=by kernel_rfl
theorem qrm:goB Tryz.prog 62 = true:=by kernel_rfl
theorem qrq:goB Tryz.prog 64 = true:=by kernel_rfl
theorem go_8:goB Tryz.prog 8 = true:=by kernel_rfl
theorem qkD:∃ i,Tryz.prog.info? 38 = some i ∧ i.size = 4:=⟨_,rfl,by kernel_rfl⟩
theorem qku:∃ i,Tryz.prog.info? 56 = some i ∧ i.size = 3:=⟨_,rfl,by kernel_rfl⟩
theorem qqQ:∃ i,Tryz.prog.info? 76 = some i ∧ i.size = 42:=⟨_,rfl,by kernel_rfl⟩
theorem qqA:∃ i,Tryz.prog.info? 86 = some i ∧ i.size = 1:=⟨_,rfl,by kernel_rfl⟩
theorem qfj:oneB Tryz.prog 34 = true:=by kernel_rfl
theorem qlU:oneB Tryz.prog 52 = true:=by kernel_rfl
theorem qi7:oneB Tryz.prog 86 = true:=by kernel_rfl
theorem qfv:qeh Tryz.prog 54 = some [(0,2),(2,1),(3,1),(4,1)]:=by kernel_rfl
theorem qcu:qeh Tryz.prog 56 = some [(0,1),(1,1),(2,1)]:=by kernel_rfl
theorem qox:qeh Tryz.prog 89 = some [(0,1),(1,1)]:=by kernel_rfl
theorem qdm:SlT Tryz.prog 34 4 1:=SlT.of (by kernel_rfl)
theorem qhq:SlT Tryz.prog 52 86 1:=SlT.of (by kernel_rfl)
theorem qfm:qcn Tryz.prog 4 = some [vb false]:=by kernel_rfl
theorem qgS:qcn Tryz.prog 54 = some [(Value.slice none 0 0),(Value.slice none 0 0),(Value.slice none 0 0),(Value.slice none 0 0),(Value.slice none 0 0)]:=by kernel_rfl
theorem qc3:qcn Tryz.prog 56 = some [vb false,vb false,vb false]:=by kernel_rfl
theorem qmF:qcn Tryz.prog 76 = some [vb false,vb false,vb false,vb false,vb false,vb false,vb false,vb false,vb false,vb false,vb false,vb false,vb false,vb false,vb false,vb false,vb false,vb false,vb false,vb false,vb false,vb false,vb false,vb false,vb false,vb false,vb false,vb false,vb false,vb false,vb false,vb false,vb false,vb false,vb false,vb false,vb false,vb false,vb false,vb false,vb false,vb false]:=by kernel_rfl
theorem qh4:qcn Tryz.prog 86 = some [(Value.pointer none)]:=by kernel_rfl
theorem qpU:qcn Tryz.prog 89 = some [(vs ([])),(Value.pointer none)]:=by kernel_rfl
def qkc (u:World) (m0:Mem) (S:Segs) (r:Uses × Bool) (a:Act) (w:World):Prop :=
 ∃ m1 v0,m0.le m1 ∧ Ok u m1 S w ∧ a.defers = [] ∧ RVs Tryz.prog a w [.c 2 56 (.agg v0.toArray),.t 3 (.bool r.2)] ∧ qpu m1 v0 r.1
theorem qkg (N:Nat) (op_0:Int) (rop_0:InR .i64 op_0) {r:Uses × Bool} (hF:qeQ N op_0 = some r) (hG:Glob u) (ok:Ok u m0 S w) :
  Calls Tryz.prog 21 [vi op_0].toArray w fun e w'=>∃ m1 v0,e = .returned (.tuple [(.agg v0.toArray),(.bool r.2)].toArray) ∧ m0.le m1 ∧ Ok u m1 S w' ∧ qpu m1 v0 r.1:=by
 have le_m0:=Mem.le.refl m0
 unfold qeQ at hF
 refine en (qkc u m0 S) r Tryz.func21 rfl rfl rfl (by rintro a w ⟨m1,v0,hle,ok,hd,hrv,h0⟩; exact qcw [.c 2 56 (.agg v0.toArray),.t 3 (.bool r.2)] hd rfl hrv ⟨m1,v0,rfl,hle,ok,h0⟩) fun fin a E=>sg<|qbh E ok qc3 rfl rfl fun b1 a w E ok=>aw E rfl fun a E=>sg<|lw E (qav (ps:=[(2,.const (vb true))]) (qs:=[(2,[vb true])]) (cs:=[vb false,vb false,vb true]) qc3 qcu rfl ⟨rfl,rfl,rfl,trivial⟩ rfl) fun a E=>lw E (qav (ps:=[(2,.const (vb true))]) (qs:=[(2,[vb true])]) (cs:=[vb false,vb false,vb true]) qc3 qcu rfl ⟨rfl,rfl,rfl,trivial⟩ rfl) fun a E=>lw E (qav (ps:=[(2,.const (vb true))]) (qs:=[(2,[vb true])]) (cs:=[vb false,vb false,vb true]) qc3 qcu rfl ⟨rfl,rfl,rfl,trivial⟩ rfl) fun a E=>lw E (qav (ps:=[(2,.const (vb true))]) (qs:=[(2,[vb true])]) (cs:=[vb false,vb false,vb true]) qc3 qcu rfl ⟨rfl,rfl,rfl,trivial⟩ rfl) fun a E=>lw E (qav (ps:=[(0,.const (vb true))]) (qs:=[(0,[vb true])]) (cs:=[vb true,vb false,vb false]) qc3 qcu rfl ⟨rfl,rfl,rfl,trivial⟩ rfl) fun a E=>lw E (qav (ps:=[(0,.const (vb true)),(2,.const (vb true))]) (qs:=[(0,[vb true]),(2,[vb true])]) (cs:=[vb true,vb false,vb true]) qc3 qcu rfl ⟨rfl,rfl,rfl,⟨rfl,rfl,rfl,trivial⟩⟩ rfl) fun a E=>lw E (qav (ps:=[(0,.const (vb true)),(2,.const (vb true))]) (qs:=[(0,[vb true]),(2,[vb true])]) (cs:=[vb true,vb false,vb true]) qc3 qcu rfl ⟨rfl,rfl,rfl,⟨rfl,rfl,rfl,trivial⟩⟩ rfl) fun a E=>?_
 refine lw E (qav (ps:=[(0,.const (vb true)),(2,.const (vb true))]) (qs:=[(0,[vb true]),(2,[vb true])]) (cs:=[vb true,vb false,vb true]) qc3 qcu rfl ⟨rfl,rfl,rfl,⟨rfl,rfl,rfl,trivial⟩⟩ rfl) fun a E=>lw E (qav (ps:=[(0,.const (vb true)),(2,.const (vb true))]) (qs:=[(0,[vb true]),(2,[vb true])]) (cs:=[vb true,vb false,vb true]) qc3 qcu rfl ⟨rfl,rfl,rfl,⟨rfl,rfl,rfl,trivial⟩⟩ rfl) fun a E=>lw E (qav (ps:=[(0,.const (vb true)),(1,.const (vb true))]) (qs:=[(0,[vb true]),(1,[vb true])]) (cs:=[vb true,vb true,vb false]) qc3 qcu rfl ⟨rfl,rfl,rfl,⟨rfl,rfl,rfl,trivial⟩⟩ rfl) fun a E=>lw E (qav (ps:=[(0,.const (vb true)),(2,.const (vb true))]) (qs:=[(0,[vb true]),(2,[vb true])]) (cs:=[vb true,vb false,vb true]) qc3 qcu rfl ⟨rfl,rfl,rfl,⟨rfl,rfl,rfl,trivial⟩⟩ rfl) fun a E=>lw E (qav (ps:=[(0,.const (vb true))]) (qs:=[(0,[vb true])]) (cs:=[vb true,vb false,vb false]) qc3 qcu rfl ⟨rfl,rfl,rfl,trivial⟩ rfl) fun a E=>lw E (qav (ps:=[]) (qs:=[]) (cs:=[vb false,vb false,vb false]) qc3 qcu rfl trivial rfl) fun a E=>lv E ok (qlK (ps:=[(1,.tmp 5),(2,.tmp 6),(3,.tmp 7),(4,.tmp 8),(5,.tmp 9),(6,.tmp 10),(7,.tmp 11),(8,.tmp 12),(9,.tmp 13),(10,.tmp 14),(11,.tmp 15),(12,.tmp 16),(13,.tmp 17)]) (qs:=[(3,[vb false,vb false,vb true]),(6,[vb false,vb false,vb true]),(9,[vb false,vb false,vb true]),(12,[vb false,vb false,vb true]),(15,[vb true,vb false,vb false]),(18,[vb true,vb false,vb true]),(21,[vb true,vb false,vb true]),(24,[vb true,vb false,vb true]),(27,[vb true,vb false,vb true]),(30,[vb true,vb true,vb false]),(33,[vb true,vb false,vb true]),(36,[vb true,vb false,vb false]),(39,[vb false,vb false,vb false])]) (cs:=[vb false,vb false,vb false,vb false,vb false,vb true,vb false,vb false,vb true,vb false,vb false,vb true,vb false,vb false,vb true,vb true,vb false,vb false,vb true,vb false,vb true,vb true,vb false,vb true,vb true,vb false,vb true,vb true,vb false,vb true,vb true,vb true,vb false,vb true,vb false,vb true,vb true,vb false,vb false,vb false,vb false,vb false]) qmF qog rfl ⟨rfl,rfl,rfl,⟨rfl,rfl,rfl,⟨rfl,rfl,rfl,⟨rfl,rfl,rfl,⟨rfl,rfl,rfl,⟨rfl,rfl,rfl,⟨rfl,rfl,rfl,⟨rfl,rfl,rfl,⟨rfl,rfl,rfl,⟨rfl,rfl,rfl,⟨rfl,rfl,rfl,⟨rfl,rfl,rfl,⟨rfl,rfl,rfl,trivial⟩⟩⟩⟩⟩⟩⟩⟩⟩⟩⟩⟩⟩ rfl) fun a E=>qbh E ok qmF rfl rfl fun b2 a w E ok=>qai E ok 0 rfl rfl rfl qqQ rfl rfl ⟨rfl,rfl,rfl,rfl,rfl,rfl,rfl,rfl,rfl,rfl,rfl,rfl,rfl,rfl,rfl,rfl,rfl,rfl,rfl,rfl,rfl,rfl,rfl,rfl,rfl,rfl,rfl,rfl,rfl,rfl,rfl,rfl,rfl,rfl,rfl,rfl,rfl,rfl,rfl,rfl,rfl,rfl,trivial⟩ rfl rfl fun w ok=>wn<|wp_seq<|sg<|mv E rfl fun a E=>lw E (qaJ rfl rfl) fun a E=>mv E rfl fun a E=>bu E 21 hF (fun c3 hF E=>?_) fun c3 hF E=>?_
 ·refine lsq E fun a E=>pt E rfl rfl fun a E=>wn<|c_if E rfl (fun _=>?_) (fun h=>by cases h)
  refine sg<|lw E (qav (ps:=[]) (qs:=[]) (cs:=[vb false,vb false,vb false]) qc3 qcu rfl trivial rfl) fun a E=>qai E ok 1 rfl rfl rfl qku rfl rfl ⟨rfl,rfl,rfl,trivial⟩ rfl rfl fun w ok=>aw E rfl fun a E=>wp_ret<|qaf ?_
  exact fin hF ⟨m0,[vb false,vb false,vb false],le_m0,ok.drop.drop,E.d,⟨rv_c (cs:=[vb false,vb false,vb false]) E ok rfl qkt rfl (qac.own 1 rfl rfl),rv_t E rfl,trivial⟩,rfl⟩
 refine mv E rfl fun a E=>lw E (qa9 rfl rfl) fun a E=>pf E rfl rfl fun a E=>wn<|cf E rfl hF (fun c4 hF=>?_) fun c4 hF=>?_
 ·refine sg<|lw E (qav (ps:=[]) (qs:=[]) (cs:=[vb false,vb false,vb false]) qc3 qcu rfl trivial rfl) fun a E=>qai E ok 1 rfl rfl rfl qku rfl rfl ⟨rfl,rfl,rfl,trivial⟩ rfl rfl fun w ok=>aw E rfl fun a E=>wp_ret<|qaf ?_
  exact fin hF ⟨m0,[vb false,vb false,vb false],le_m0,ok.drop.drop,E.d,⟨rv_c (cs:=[vb false,vb false,vb false]) E ok rfl qkt rfl (qac.own 1 rfl rfl),rv_t E rfl,trivial⟩,rfl⟩
 refine wp_skip<|qaa<|sg<|mv E rfl fun a E=>?_
 obtain ⟨x5,e6,hF⟩:=bnd hF
 replace e6:idx (Arr14_Uses.list (Arr14_Uses.mk (Uses.mk false false false) (Uses.mk false false true) (Uses.mk false false true) (Uses.mk false false true) (Uses.mk false false true) (Uses.mk true false false) (Uses.mk true false true) (Uses.mk true false true) (Uses.mk true false true) (Uses.mk true false true) (Uses.mk true true false) (Uses.mk true false true) (Uses.mk true false false) (Uses.mk false false false))) op_0 = some x5:=e6
 refine lv E ok (qqS qog rfl rfl (qlh e6).1 (qlh e6).2) fun a E=>lv E ok (qaj (cs:=[vb x5.a,vb x5.b,vb x5.s]) qkt rfl rfl (qac.idxK (k:=3) (xs:=Arr14_Uses.list (Arr14_Uses.mk (Uses.mk false false false) (Uses.mk false false true) (Uses.mk false false true) (Uses.mk false false true) (Uses.mk false false true) (Uses.mk true false false) (Uses.mk true false true) (Uses.mk true false true) (Uses.mk true false true) (Uses.mk true false true) (Uses.mk true true false) (Uses.mk true false true) (Uses.mk true false false) (Uses.mk false false false))) (f:=(fun x:Uses=>[vb x.a,vb x.b,vb x.s])) (fun _=>rfl) (qac.own 0 rfl rfl) e6)) fun a E=>qai E ok 1 rfl rfl rfl qku rfl rfl ⟨rfl,rfl,rfl,trivial⟩ rfl rfl fun w ok=>aw E rfl fun a E=>wp_ret ?_
 exact fin hF ⟨m0,[vb x5.a,vb x5.b,vb x5.s],le_m0,ok.drop.drop,E.d,⟨rv_c (cs:=[vb x5.a,vb x5.b,vb x5.s]) E ok rfl qkt rfl (qac.own 1 rfl rfl),rv_t E rfl,trivial⟩,rfl⟩
def qgA (u:World) (m0:Mem) (S:Segs) (r:Bool) (a:Act) (w:World):Prop :=
 Ok u m0 S w ∧ a.defers = [] ∧ RVs Tryz.prog a w [.t 2 (.bool r)]
theorem qjD (N:Nat) (s_0:List UInt8) (ls_0:s_0.length ≤ LIMS) {r:Bool} (hF:qdN N s_0 = some r) (hG:Glob u) (ok:Ok u m0 S w) :
  Calls Tryz.prog 23 [vs s_0].toArray w fun e w'=>(e = .returned (.bool r) ∧ Ok u m0 S w'):=by
 unfold qdN at hF
 refine en (qgA u m0 S) r Tryz.func23 rfl rfl rfl (fun _ _ h=>ra h rfl) fun fin a E=>sg<|aw E rfl fun a E=>wp_seq<|sg<|mv E rfl fun a E=>lw E (qaG Tryz.underlying9 rfl) fun a E=>mv E rfl fun a E=>wn<|wp_block<|bd hF fun o2 hL hF=>qaX _ (fun (s:Int) a w=>Ok u m0 (S) w ∧ Env 28 a [(0,vs s_0),(6,(vi (s_0.length:Int))),(7,vi s)] ∧ InR .i64 s) (fun (b:(Unit ⊕ Bool)) e a w=>(Sum.elim (fun b12=>e = (.exit 0) ∧ Ok u m0 (S) w ∧ Env 28 a [(0,vs s_0)]) (fun b13=>e = .ret ∧ qgA u m0 S b13 a w)) b) ?_ ?_ N _ a w hL ⟨ok,E.keep [0,6,7],(ir 0)⟩
 rotate_left
 ·intro e a w _ hO
  rcases o2 with o2 | o2
  rotate_left
  ·obtain ⟨rfl,hret⟩:=hO
   refine qam<|qaf ?_
   exact fin hF hret
  have hF:=qcl hF
  obtain ⟨rfl,ok,E⟩:=hO
  refine qba<|qaa<|sg<|mv E rfl fun a E=>lw E (qbB rfl rfl) fun a E=>mv E rfl fun a E=>bu E 23 hF (fun c11 hF E=>?_) fun c11 hF E=>?_
  ·refine mv E rfl fun a E=>lw E (qaG Tryz.underlying9 rfl) fun a E=>lw E (qcd rfl rfl) fun a E=>pt E rfl rfl fun a E=>aw E rfl fun a E=>wp_ret ?_
   exact fin hF ⟨ok,E.d,rz E rfl⟩
  refine lsq E fun a E=>ls E fun a E=>pf E rfl rfl fun a E=>aw E rfl fun a E=>wp_ret ?_
  exact fin hF ⟨ok,E.d,rz E rfl⟩
 rintro v4 a w r ⟨ok,E,r5⟩ hF
 replace hF:qdA N s_0 v4 = some r:=hF
 unfold qdA at hF
 refine sg<|lw E (qaJ rfl rfl) fun a E=>wn<|wp_seq<|cg E rfl hF (fun c6 hF=>?_) fun c6 hF=>?_
 ·refine wp_exit<|qaO ?_
  cases hF
  exact so (sl ⟨rfl,⟨ok,E.keep [0]⟩⟩)
 refine wp_skip<|qaa<|wp_seq<|wp_block<|sg<|mv E rfl fun a E=>av E rfl fun a E=>wn<|sg<|mz E rfl rfl fun a E=>bd hF fun c7 e8 hF=>lv E ok (qbM Tryz.underlying9 rfl rfl e8) fun a E=>lw E (qqw .or (by decide) rfl rfl) fun a E=>aw E rfl fun a E=>sg<|mv E rfl fun a E=>?_
 refine lw E (qaJ rfl rfl) fun a E=>mv E rfl fun a E=>bu E 16 hF (fun c9 hF E=>?_) fun c9 hF E=>?_
 ·refine lsq E fun a E=>pt E rfl rfl fun a E=>wn<|c_if E rfl (fun _=>?_) (fun h=>by cases h)
  refine sg<|aw E rfl fun a E=>wp_ret<|qam<|qaf ?_
  cases hF
  exact so (sr ⟨rfl,⟨ok,E.d,rz E rfl⟩⟩)
 refine mv E rfl fun a E=>lw E (qa9 rfl rfl) fun a E=>pf E rfl rfl fun a E=>wn<|cg E rfl hF (fun c10 hF=>?_) fun c10 hF=>?_
 ·refine wp_skip<|qag<|qaa<|qab<|lw E (qau rfl rfl (InR.inc r5 (InR.len ls_0) c6)) fun a E=>mv E rfl fun a E=>wpList_nil ?_
  cases hF
  exact qap ⟨ok,E.keep [0,6,7],(InR.inc r5 (InR.len ls_0) c6)⟩
 refine sg<|aw E rfl fun a E=>wp_ret<|qam<|qaf ?_
 cases hF
 exact so (sr ⟨rfl,⟨ok,E.d,rz E rfl⟩⟩)
def qkF (u:World) (m0:Mem) (S:Segs) (r:(List (Ins))) (a:Act) (w:World):Prop :=
 ∃ m1 v0,m0.le m1 ∧ Ok u m1 S w ∧ a.defers = [] ∧ RVs Tryz.prog a w [.t 4 v0] ∧ (pL 4 pIns) m1 [v0] r
theorem qhF (N:Nat) (vc_0:List Value) (c_0:Code) (hc_0:qgF m0 vc_0 c_0) (i_1:Int) (ri_1:InR .i64 i_1) {r:(List (Ins))} (hF:qeD N c_0 i_1 = some r) (hG:Glob u) (ok:Ok u m0 S w) :
  Calls Tryz.prog 41 [.agg vc_0.toArray,vi i_1].toArray w fun e w'=>∃ m1 v0,e = .returned v0 ∧ m0.le m1 ∧ Ok u m1 S w' ∧ (pL 4 pIns) m1 [v0] r:=by
 obtain ⟨c1,c3,rfl,h2,h4⟩:=hc_0
 have le_m0:=Mem.le.refl m0
 unfold qeD at hF
 refine en (qkF u m0 S) r Tryz.func41 rfl rfl rfl (fun _ _ h=>rc h fun _=>rfl) fun fin a E=>sg<|qdf E ok rfl rfl rfl fun b5 a w E ok=>aw E rfl fun a E=>sg<|mv E rfl fun a E=>lw E (qbb rfl rfl) fun a E=>aw E rfl fun a E=>wp_seq<|wp_block<|bd hF fun o7 hL hF=>qaX _ (fun (s:Int) a w=>Ok u m0 ([(b5,oc 28 [c1,c3])] :: S) w ∧ Env 30 a [(1,vi i_1),(2,vp b5),(5,vi s)] ∧ InR .i64 s) (fun (b:Int) e a w=>e = (.exit 0) ∧ Ok u m0 ([(b5,oc 28 [c1,c3])] :: S) w ∧ Env 30 a [(1,vi i_1),(2,vp b5),(5,vi b)] ∧ InR .i64 b) ?_ ?_ N _ a w hL ⟨ok,E.keep [1,2,5],(InR.wrap _ _)⟩
 rotate_left
 ·intro e a w _ hO
  obtain ⟨rfl,ok,E,r26⟩:=hO
  refine qba<|qaa<|sg<|fk E ok qbF qbO rfl 0 rfl rfl fun a E=>mv E rfl fun a E=>lw E (qbb rfl rfl) fun a E=>mv E rfl fun a E=>?_
  obtain ⟨l27,e28,hF⟩:=bnd hF
  obtain ⟨c29,h30,yy31⟩:=qo7 qbp h4 e28 (P:=Tryz.prog) (X:=.tmp 25) (lov:=(some (.tmp 27))) (hiv:=(some (.tmp 28))) (qaS E rfl) (qpj E ⟨_,rfl⟩) (qpj E ⟨_,rfl⟩)
  refine lv E ok (yy31 _ _) fun a E=>aw E rfl fun a E=>wp_ret ?_
  exact fin hF ⟨m0,c29,le_m0,ok.drop,E.d,rz E rfl,h30⟩
 rintro v9 a w r ⟨ok,E,r10⟩ hF
 replace hF:qb6 N c_0 v9 = some r:=hF
 unfold qb6 at hF
 refine wp_seq<|sg<|mv E rfl fun a E=>fk E ok qbF qbO rfl 0 rfl rfl fun a E=>lv E ok (qax qbp h4 rfl) fun a E=>lw E (qaJ rfl rfl) fun a E=>mv E rfl fun a E=>bw E 13 hF (fun c11 hF E=>?_) fun c11 hF E=>?_
 ·refine lsz E fun a E=>lsq E fun a E=>ls E fun a E=>pf E rfl rfl fun a E=>wn<|c_if E rfl (fun h=>by cases h) (fun _=>?_)
  refine wp_exit<|qaO ?_
  cases hF
  exact so (⟨rfl,⟨ok,E.keep [1,2,5],r10⟩⟩)
 refine fk E ok qbF qbO rfl 0 rfl rfl fun a E=>mv E rfl fun a E=>?_
 obtain ⟨x12,e13,hF⟩:=bnd hF
 obtain ⟨b14,o15,es16,hl17,rr18,at19,yy20⟩:=ia E 15 16 qbp h4 e13
 obtain ⟨rfl,r21,r22,r23,l24⟩:=rr18
 refine lv E ok (yy20 _ _) fun a E=>fv E qeB rfl fun a E=>lv E ok (qak qat rfl (qac.ro (At.sub 0 1 at19))) fun a E=>lw E (qao rfl rfl) fun a E=>pt E rfl rfl fun a E=>wn<|cg E rfl hF (fun c25 hF=>?_) fun c25 hF=>?_
 ·refine wp_exit<|qaO ?_
  cases hF
  exact so (⟨rfl,⟨ok,E.keep [1,2,5],r10⟩⟩)
 refine wp_skip<|qaa<|wp_block<|qab<|mv E rfl fun a E=>lw E (qau rfl rfl (InR.inc r10 (qae h4) c11)) fun a E=>av E rfl fun a E=>wpList_nil<|qag ?_
 cases hF
 exact qap ⟨ok,E.keep [1,2,5],(InR.inc r10 (qae h4) c11)⟩
def qfD (u:World) (m0:Mem) (S:Segs) (r:Bool) (a:Act) (w:World):Prop :=
 Ok u m0 S w ∧ a.defers = [] ∧ RVs Tryz.prog a w [.t 4 (.bool r)]
theorem qfF (N:Nat) (vs_0:Value) (s_0:List (List UInt8)) (hs_0:(pL 1 pS) m0 [vs_0] s_0) (v_1:List UInt8) (lv_1:v_1.length ≤ LIMS) {r:Bool} (hF:qbr N s_0 v_1 = some r) (hG:Glob u) (ok:Ok u m0 S w) :
  Calls Tryz.prog 64 [vs_0,vs v_1].toArray w fun e w'=>(e = .returned (.bool r) ∧ Ok u m0 S w'):=by
 unfold qbr at hF
 refine en (qfD u m0 S) r Tryz.func64 rfl rfl rfl (fun _ _ h=>ra h rfl) fun fin a E=>sg<|aw E rfl fun a E=>sg<|mz E rfl rfl fun a E=>bd hF fun r1 e2 hF=>qas E qpo rfl (qeA N _ s_0 hs_0 v_1 lv_1 e2 hG ok) rfl rfl ?_
 rintro _ w ⟨⟨rfl,ok⟩,r3⟩
 refine ⟨_,rfl,fun a E=>?_⟩
 refine lw E (qcB rfl rfl) fun a E=>aw E rfl fun a E=>wp_ret ?_
 exact fin hF ⟨ok,E.d,rz E rfl⟩
def qk2 (u:World) (m0:Mem) (S:Segs) (r:Bool) (a:Act) (w:World):Prop :=
 Ok u m0 S w ∧ a.defers = [] ∧ RVs Tryz.prog a w [.t 2 (.bool r)]
theorem qkW (N:Nat) (s_0:List UInt8) (ls_0:s_0.length ≤ LIMS) {r:Bool} (hF:qe8 N s_0 = some r) (hG:Glob u) (ok:Ok u m0 S w) :
  Calls Tryz.prog 54 [vs s_0].toArray w fun e w'=>(e = .returned (.bool r) ∧ Ok u m0 S w'):=by
 unfold qe8 at hF
 refine en (qk2 u m0 S) r Tryz.func54 rfl rfl rfl (fun _ _ h=>ra h rfl) fun fin a E=>sg<|aw E rfl fun a E=>sg<|qcy (R:=pS) (xo:=[.const (vs ([122,101,114,111])),.const (vs ([111,110,101])),.const (vs ([116,119,111])),.const (vs ([102,101,119])),.const (vs ([109,97,110,121])),.const (vs ([111,116,104,101,114]))]) (xs:=([[122,101,114,111],[111,110,101],[116,119,111],[102,101,119],[109,97,110,121],[111,116,104,101,114]]:List (List UInt8))) E ok qbx qb0 rfl ⟨⟨_,rfl,rfl,(qc9 (show ([122,101,114,111]:List UInt8).length ≤ LIMS by decide))⟩,⟨_,rfl,rfl,(qc9 (show ([111,110,101]:List UInt8).length ≤ LIMS by decide))⟩,⟨_,rfl,rfl,(qc9 (show ([116,119,111]:List UInt8).length ≤ LIMS by decide))⟩,⟨_,rfl,rfl,(qc9 (show ([102,101,119]:List UInt8).length ≤ LIMS by decide))⟩,⟨_,rfl,rfl,(qc9 (show ([109,97,110,121]:List UInt8).length ≤ LIMS by decide))⟩,⟨_,rfl,rfl,(qc9 (show ([111,116,104,101,114]:List UInt8).length ≤ LIMS by decide))⟩,trivial⟩ rfl rfl rfl rfl fun c1 M2 a w E ok h3=>mv E rfl fun a E=>?_
 obtain ⟨r9,e10,hF⟩:=bnd hF
 obtain ⟨m4,hle6,ok5,hfz7⟩:=(ok.frs 0 rfl).freeze
 have h8:=ORow.froz mS h3 hle6 hfz7 (by decide)
 refine qas E qrq rfl (qfF N _ ([[122,101,114,111],[111,110,101],[116,119,111],[102,101,119],[109,97,110,121],[111,116,104,101,114]]:List (List UInt8)) h8 s_0 ls_0 e10 hG ok5) rfl rfl ?_
 rintro _ w ⟨rfl,okz⟩
 replace ok:=(Ok.thawAt 0 rfl ok hle6 hfz7 okz)
 refine ⟨_,rfl,fun a E=>?_⟩
 refine aw E rfl fun a E=>wp_ret ?_
 exact fin hF ⟨ok.drop,E.d,rz E rfl⟩
def qmn (u:World) (m0:Mem) (S:Segs) (r:Bool) (a:Act) (w:World):Prop :=
 Ok u m0 S w ∧ a.defers = [] ∧ RVs Tryz.prog a w [.t 4 (.bool r)]
theorem qlX (N:Nat) (kind_0:Int) (rkind_0:InR .i64 kind_0) (s_1:List UInt8) (ls_1:s_1.length ≤ LIMS) {r:Bool} (hF:qfJ N kind_0 s_1 = some r) (hG:Glob u) (ok:Ok u m0 S w) :
  Calls Tryz.prog 42 [vi kind_0,vs s_1].toArray w fun e w'=>(e = .returned (.bool r) ∧ Ok u m0 S w'):=by
 unfold qfJ at hF
 refine en (qmn u m0 S) r Tryz.func42 rfl rfl rfl (fun _ _ h=>ra h rfl) fun fin a E=>sg<|aw E rfl fun a E=>wp_seq<|sg<|mv E rfl fun a E=>lw E (qao rfl rfl) fun a E=>wn<|cf E rfl hF (fun c1 hF=>?_) fun c1 hF=>?_
 ·refine sg<|mv E rfl fun a E=>bd hF fun r2 e3 hF=>lc E qip rfl (qd7 N s_1 ls_1 e3 hG ok) fun w ok a E=>aw E rfl fun a E=>wp_ret<|qaf ?_
  exact fin hF ⟨ok,E.d,rz E rfl⟩
 refine wp_skip<|qaa<|sg<|mv E rfl fun a E=>bd hF fun r4 e5 hF=>qas E qnb rfl (qeW N s_1 ls_1 ([61]) (show ([61]:List UInt8).length ≤ LIMS by decide) e5 hG ok) rfl rfl ?_
 rintro _ w ⟨⟨rfl,ok⟩,l6⟩
 refine ⟨_,rfl,fun a E=>?_⟩
 refine mv E rfl fun a E=>lw E (qaF rfl rfl) fun a E=>lw E (qaF rfl rfl) fun a E=>av E rfl fun a E=>aw E rfl fun a E=>sg<|mv E rfl fun a E=>bd hF fun r7 e8 hF=>lc E qqY rfl (qkW N s_1 ls_1 e8 hG ok) fun w ok a E=>mv E rfl fun a E=>qaW r7 (fun c9=>?_) (fun c9=>?_)
 ·have hF:=qaU c9 hF
  have E:=E.upd 18 c9 rfl
  refine lsz E fun a E=>ls E fun a E=>pt E rfl rfl fun a E=>av E rfl fun a E=>wn<|wp_ret ?_
  exact fin hF ⟨ok,E.d,rz E rfl⟩
 have hF:=qaV c9 hF
 have E:=E.upd 18 c9 rfl
 refine mz E rfl rfl fun a E=>qaW r4.2 (fun c10=>?_) (fun c10=>?_)
 rotate_left
 ·have hF:=qaV c10 hF
  have E:=E.upd 20 c10 rfl
  refine lsq E fun a E=>pf E rfl rfl fun a E=>pf E rfl rfl fun a E=>aw E rfl fun a E=>wp_ret ?_
  exact fin hF ⟨ok,E.d,rz E rfl⟩
 have hF:=qaU c10 hF
 have E:=E.upd 20 c10 rfl
 refine mv E rfl fun a E=>bd hF fun r11 e12 hF=>lc E qps rfl (qhk N r4.1 l6 e12 hG ok) fun w ok a E=>pt E rfl rfl fun a E=>pf E rfl rfl fun a E=>aw E rfl fun a E=>wp_ret ?_
 exact fin hF ⟨ok,E.d,rz E rfl⟩
def qfu (u:World) (m0:Mem) (S:Segs) (r:Bool) (a:Act) (w:World):Prop :=
 Ok u m0 S w ∧ a.defers = [] ∧ RVs Tryz.prog a w [.t 4 (.bool r)]
theorem qhS (N:Nat) (vc_0:List Value) (c_0:Code) (hc_0:qgF m0 vc_0 c_0) (i_1:Int) (ri_1:InR .i64 i_1) {r:Bool} (hF:qcS N c_0 i_1 = some r) (hG:Glob u) (ok:Ok u m0 S w) :
  Calls Tryz.prog 24 [.agg vc_0.toArray,vi i_1].toArray w fun e w'=>(e = .returned (.bool r) ∧ Ok u m0 S w'):=by
 obtain ⟨c1,c3,rfl,h2,h4⟩:=hc_0
 have hb0:=ok.base
 have le_m0:=Mem.le.refl m0
 unfold qcS at hF
 refine en (qfu u m0 S) r Tryz.func24 rfl rfl rfl (fun _ _ h=>ra h rfl) fun fin a E=>sg<|qdf E ok rfl rfl rfl fun b5 a w E ok=>aw E rfl fun a E=>sg<|lv E ok (qaj (cs:=[c1,c3]) qd5 rfl rfl (qac.own 0 rfl rfl)) fun a E=>mv E rfl fun a E=>bd hF fun r6 e7 hF=>qas E qpk rfl (qhF N _ c_0 ⟨_,_,rfl,h2,h4⟩ i_1 ri_1 e7 hG ok) rfl rfl ?_
 rintro _ w ⟨m8,c9,rfl,hle,ok,h10⟩
 have le_m0:=le_m0.trans hle
 have h2:=(mL mS).up hle h2
 have h4:=(mL mIns).up hle h4
 refine ⟨_,rfl,fun a E=>?_⟩
 refine aw E rfl fun a E=>sg<|qhi kS (oneV pB) E ok rfl rfl fun c11 M12 a w E ok h13=>av E rfl fun a E=>wn<|wp_seq<|sg<|mv E rfl fun a E=>lv E ok (qax qbp h10 rfl) fun a E=>mv E rfl fun a E=>wn<|wp_block<|bd hF fun o19 hL hF=>qaX _ (fun (s:Int × (List (List UInt8 × Bool))) a w=>∃ c21 M22,Ok u m8 (M22 :: [(b5,oc 28 [c1,c3])] :: S) w ∧ Env 60 a [(1,vi i_1),(2,vp b5),(5,c9),(6,c21),(13,c9),(14,(vi (r6.length:Int))),(15,vi s.1)] ∧ InR .i64 s.1 ∧ OMap kS (oneV pB) m8 c21 s.2 M22) (fun (b:(((List (List UInt8 × Bool))) ⊕ Bool)) e a w=>(Sum.elim (fun b95=>e = (.exit 0) ∧ ∃ c96 M97,Ok u m8 (M97 :: [(b5,oc 28 [c1,c3])] :: S) w ∧ Env 60 a [(1,vi i_1),(2,vp b5),(5,c9),(6,c96)] ∧ OMap kS (oneV pB) m8 c96 b95 M97) (fun b99=>e = .ret ∧ qfu u m0 S b99 a w)) b) ?_ ?_ N _ a w hL ⟨c11,M12,ok,E.keep [1,2,5,6,13,14,15],(ir 0),h13⟩
 rotate_left
 ·as_aux_lemma =>
   intro e a w _ hO
   rcases o19 with o19 | o19
   rotate_left
   ·obtain ⟨rfl,hret⟩:=hO
    refine qam<|qaf ?_
    exact fin hF hret
   have hF:=qcl hF
   obtain ⟨rfl,c70,M71,ok,E,h72⟩:=hO
   refine qba<|qaa<|sg<|fk E ok qbF qbO rfl 1 rfl rfl fun a E=>mv E rfl fun a E=>?_
   obtain ⟨x73,e74,hF⟩:=bnd hF
   obtain ⟨b75,o76,es77,hl78,rr79,at80,yy81⟩:=ia E 40 41 qbp h4 e74
   obtain ⟨rfl,r82,r83,r84,l85⟩:=rr79
   refine lv E ok (yy81 _ _) fun a E=>fv E qjx rfl fun a E=>lv E ok (qak qat rfl (qac.ro (At.sub 2 1 at80))) fun a E=>bd hF fun r86 e87 hF=>lc E qgM rfl (qbN N x73.B r84 e87 hG ok) fun w ok a E=>mv E rfl fun a E=>qaW r86 (fun c88=>?_) (fun c88=>?_)
   rotate_left
   ·have hF:=qaV c88 hF
    have E:=E.upd 46 c88 rfl
    refine lsq E fun a E=>ls E fun a E=>pf E rfl rfl fun a E=>mv E rfl fun a E=>lsq E fun a E=>ls E fun a E=>pf E rfl rfl fun a E=>mv E rfl fun a E=>lsq E fun a E=>pf E rfl rfl fun a E=>aw E rfl fun a E=>wp_ret ?_
    exact fin hF ⟨(ok.drop.drop).down hb0 le_m0,E.d,rz E rfl⟩
   have hF:=qaU c88 hF
   have E:=E.upd 46 c88 rfl
   refine mv E rfl fun a E=>lv E ok (qax qbp h10 rfl) fun a E=>lw E (qcB rfl rfl) fun a E=>pt E rfl rfl fun a E=>mv E rfl fun a E=>bw E 51 hF (fun c89 hF E=>?_) fun c89 hF E=>?_
   ·refine lsq E fun a E=>ls E fun a E=>pf E rfl rfl fun a E=>mv E rfl fun a E=>lsq E fun a E=>pf E rfl rfl fun a E=>aw E rfl fun a E=>wp_ret ?_
    exact fin hF ⟨(ok.drop.drop).down hb0 le_m0,E.d,rz E rfl⟩
   refine mv E rfl fun a E=>lv E ok (qax qbp h10 rfl) fun a E=>lw E (qcd rfl rfl) fun a E=>pt E rfl rfl fun a E=>mv E rfl fun a E=>bw E 56 hF (fun c90 hF E=>?_) fun c90 hF E=>?_
   ·refine lsq E fun a E=>pf E rfl rfl fun a E=>aw E rfl fun a E=>wp_ret ?_
    exact fin hF ⟨(ok.drop.drop).down hb0 le_m0,E.d,rz E rfl⟩
   refine mv E rfl fun a E=>?_
   obtain ⟨xv91,h92,yy93,yy94⟩:=qkk (P:=Tryz.prog) (mo:=.tmp 57) (ko:=.const (vs ([111,116,104,101,114]))) (zx:=(false:Bool)) ok 0 (qcc Tryz.underlying9) Tryz.underlying79 h72 rfl (qaS E rfl) (qaS E rfl) ⟨rfl,(show ([111,116,104,101,114]:List UInt8).length ≤ LIMS by decide)⟩ qhH qcO
   obtain rfl:=qjl h92
   refine lv E ok (yy93 _) fun a E=>pt E rfl rfl fun a E=>aw E rfl fun a E=>wp_ret ?_
   exact fin hF ⟨(ok.drop.drop).down hb0 le_m0,E.d,rz E rfl⟩
 rintro ⟨v24,v25⟩ a w r ⟨c27,M28,ok,E,r26,h29⟩ hF
 replace hF:qbz N c_0 i_1 r6 v24 v25 = some r:=hF
 unfold qbz at hF
 refine sg<|lw E (qaJ rfl rfl) fun a E=>wn<|wp_seq<|cg E rfl hF (fun c30 hF=>?_) fun c30 hF=>?_
 ·refine wp_exit<|qaO ?_
  cases hF
  exact so (sl ⟨rfl,⟨c27,M28,ok,E.keep [1,2,5,6],h29⟩⟩)
 refine wp_skip<|qaa<|wp_seq<|wp_block<|sg ?_
 obtain ⟨x31,e32,hF⟩:=bnd hF
 obtain ⟨b33,o34,es35,hl36,rr37,at38,yy39⟩:=ia E 13 15 qbp h10 e32
 obtain ⟨rfl,r40,r41,r42,l43⟩:=rr37
 refine lv E ok (yy39 _ _) fun a E=>lv E ok (qaj (cs:=[vi x31.Op,vi x31.A,vi x31.B,vs x31.S]) qiW rfl rfl (qac.ro at38)) fun a E=>qbh E ok qbl rfl rfl fun b44 a w E ok=>qai E ok 0 rfl rfl rfl qkD rfl rfl ⟨rfl,rfl,rfl,rfl,trivial⟩ rfl rfl fun w ok=>wn<|wp_seq<|wp_seq<|qdB (by kernel_rfl) (by kernel_rfl) ok<|qv E (qad qbF rfl) fun a E=>qv E (qak qbO rfl (qac.own 2 rfl rfl)) fun a E=>qv E (qal rfl) fun a E=>?_
 obtain ⟨x45,e46,hF⟩:=bnd hF
 obtain ⟨b47,o48,es49,hl50,rr51,at52,yy53⟩:=ia E 20 21 qbp h4 e46
 obtain ⟨rfl,r54,r55,r56,l57⟩:=rr51
 refine qv E (yy53 _ _) fun a E=>qv E (qad qjx rfl) fun a E=>qv E (qak qat rfl (qac.ro (At.sub 2 1 at52))) fun a E=>qv E (qad qdy rfl) fun a E=>qv E (qak qah rfl (qac.own 0 rfl rfl)) fun a E=>bd hF fun r58 e59 hF=>qcv E qrn rfl (fun w ok=>(qlX N x45.B r56 x31.S l43 e59 hG ok).mono (fun _ _ h=>h)) rfl rfl fun a E=>qv E (qaz rfl) fun a E=>qv E (qal rfl) fun a E=>bu E 29 hF (fun c60 hF E=>?_) fun c60 hF E=>?_
 ·refine qs E fun a E=>qs E fun a E=>qs E fun a E=>qs E fun a E=>qv E (qco rfl rfl) fun a E=>wpQuiet_nil ?_
  intro w ok
  refine qaa<|c_if E rfl (fun _=>?_) (fun h=>by cases h)
  refine sg<|aw E rfl fun a E=>wp_ret<|qaf<|qam<|qaf ?_
  cases hF
  exact so (sr ⟨rfl,⟨(ok.drop.drop.drop).down hb0 le_m0,E.d,rz E rfl⟩⟩)
 refine qv E (qal rfl) fun a E=>qv E (qad qdy rfl) fun a E=>qv E (qak qah rfl (qac.own 0 rfl rfl)) fun a E=>?_
 obtain ⟨xv61,h62,yy63,yy64⟩:=qkk (P:=Tryz.prog) (mo:=.tmp 30) (ko:=.tmp 32) (zx:=(false:Bool)) ok 1 (qcc Tryz.underlying9) Tryz.underlying79 h29 rfl (qaS E rfl) (qaS E rfl) ⟨rfl,l43⟩ qhH qcO
 obtain rfl:=qjl h62
 refine qv E (yy63 _) fun a E=>qv E (qcq rfl rfl) fun a E=>wpQuiet_nil ?_
 intro w ok
 refine qaa<|cf E rfl hF (fun c65 hF=>?_) fun c65 hF=>?_
 ·refine sg<|aw E rfl fun a E=>wp_ret<|qaf<|qam<|qaf ?_
  cases hF
  exact so (sr ⟨rfl,⟨(ok.drop.drop.drop).down hb0 le_m0,E.d,rz E rfl⟩⟩)
 refine wp_skip<|qaa<|qab<|mv E rfl fun a E=>fk E ok qdy qah rfl 0 rfl rfl fun a E=>bd hF fun l66 e67 hF=>qgY (.inl rfl) E ok 1 (qcc Tryz.underlying9) Tryz.underlying79 h29 rfl rfl rfl rfl ⟨rfl,l43⟩ qcO e67 rfl fun M68 w ok h69=>wpList_nil<|qag<|qaa<|qab<|lw E (qau rfl rfl (InR.inc r26 (qae h10) c30)) fun a E=>mv E rfl fun a E=>wpList_nil ?_
 cases hF
 exact qap ⟨c27,M68,(ok.pk 3 [1,2] rfl (by decide)),E.keep [1,2,5,6,13,14,15],(InR.inc r26 (qae h10) c30),h69⟩
def qkz (u:World) (m0:Mem) (S:Segs) (r:Bool) (a:Act) (w:World):Prop :=
 Ok u m0 S w ∧ a.defers = [] ∧ RVs Tryz.prog a w [.t 6 (.bool r)]
theorem qfL (N:Nat) (vc_0:List Value) (c_0:Code) (hc_0:qgF m0 vc_0 c_0) (i_1:Int) (ri_1:InR .i64 i_1) (to_2:Int) (rto_2:InR .i64 to_2) {r:Bool} (hF:qcz N c_0 i_1 to_2 = some r) (hG:Glob u) (ok:Ok u m0 S w) :
  Calls Tryz.prog 25 [.agg vc_0.toArray,vi i_1,vi to_2].toArray w fun e w'=>(e = .returned (.bool r) ∧ Ok u m0 S w'):=by
 obtain ⟨c1,c3,rfl,h2,h4⟩:=hc_0
 unfold qcz at hF
 refine en (qkz u m0 S) r Tryz.func25 rfl rfl rfl (fun _ _ h=>ra h rfl) fun fin a E=>sg<|qdf E ok rfl rfl rfl fun b5 a w E ok=>aw E rfl fun a E=>sg<|mz E rfl rfl fun a E=>lw E (qa9 rfl rfl) fun a E=>mv E rfl fun a E=>bw E 10 hF (fun c6 hF E=>?_) fun c6 hF E=>?_
 ·refine lsz E fun a E=>ls E fun a E=>pf E rfl rfl fun a E=>mv E rfl fun a E=>lsz E fun a E=>lsq E fun a E=>ls E fun a E=>pf E rfl rfl fun a E=>av E rfl fun a E=>?_
  refine wn<|wp_ret ?_
  exact fin hF ⟨ok.drop,E.d,rz E rfl⟩
 refine mv E rfl fun a E=>fk E ok qbF qbO rfl 0 rfl rfl fun a E=>lv E ok (qax qbp h4 rfl) fun a E=>lw E (qaJ rfl rfl) fun a E=>pt E rfl rfl fun a E=>mv E rfl fun a E=>bw E 17 hF (fun c7 hF E=>?_) fun c7 hF E=>?_
 ·refine lsz E fun a E=>lsq E fun a E=>ls E fun a E=>pf E rfl rfl fun a E=>aw E rfl fun a E=>wp_ret ?_
  exact fin hF ⟨ok.drop,E.d,rz E rfl⟩
 refine fk E ok qbF qbO rfl 0 rfl rfl fun a E=>mv E rfl fun a E=>?_
 obtain ⟨x8,e9,hF⟩:=bnd hF
 obtain ⟨b10,o11,es12,hl13,rr14,at15,yy16⟩:=ia E 19 20 qbp h4 e9
 obtain ⟨rfl,r17,r18,r19,l20⟩:=rr14
 refine lv E ok (yy16 _ _) fun a E=>fv E qeB rfl fun a E=>lv E ok (qak qat rfl (qac.ro (At.sub 0 1 at15))) fun a E=>lw E (qda rfl rfl) fun a E=>pt E rfl rfl fun a E=>aw E rfl fun a E=>wp_ret ?_
 exact fin hF ⟨ok.drop,E.d,rz E rfl⟩
def qko (u:World) (m0:Mem) (S:Segs) (r:Bool) (a:Act) (w:World):Prop :=
 Ok u m0 S w ∧ a.defers = [] ∧ RVs Tryz.prog a w [.t 4 (.bool r)]
theorem qhn (N:Nat) (vc_0:List Value) (c_0:Code) (hc_0:qgF m0 vc_0 c_0) (i_1:Int) (ri_1:InR .i64 i_1) {r:Bool} (hF:qdl N c_0 i_1 = some r) (hG:Glob u) (ok:Ok u m0 S w) :
  Calls Tryz.prog 10 [.agg vc_0.toArray,vi i_1].toArray w fun e w'=>(e = .returned (.bool r) ∧ Ok u m0 S w'):=by
 obtain ⟨c1,c3,rfl,h2,h4⟩:=hc_0
 have hb0:=ok.base
 have le_m0:=Mem.le.refl m0
 unfold qdl at hF
 refine en (qko u m0 S) r Tryz.func10 rfl rfl rfl (fun _ _ h=>ra h rfl) fun fin a E=>sg<|qdf E ok rfl rfl rfl fun b5 a w E ok=>aw E rfl fun a E=>wp_seq<|sg<|mv E rfl fun a E=>lw E (qaJ rfl rfl) fun a E=>mv E rfl fun a E=>bu E 10 hF (fun c6 hF E=>?_) fun c6 hF E=>?_
 ·refine lsz E fun a E=>ls E fun a E=>pt E rfl rfl fun a E=>wn<|c_if E rfl (fun _=>?_) (fun h=>by cases h)
  refine sg<|aw E rfl fun a E=>wp_ret<|qaf ?_
  exact fin hF ⟨ok.drop,E.d,rz E rfl⟩
 refine mv E rfl fun a E=>fk E ok qbF qbO rfl 0 rfl rfl fun a E=>lv E ok (qax qbp h4 rfl) fun a E=>lw E (qcB rfl rfl) fun a E=>pf E rfl rfl fun a E=>wn<|cf E rfl hF (fun c7 hF=>?_) fun c7 hF=>?_
 ·refine sg<|aw E rfl fun a E=>wp_ret<|qaf ?_
  exact fin hF ⟨ok.drop,E.d,rz E rfl⟩
 refine wp_skip<|qaa<|sg<|fk E ok qbF qbO rfl 0 rfl rfl fun a E=>mv E rfl fun a E=>?_
 obtain ⟨x8,e9,hF⟩:=bnd hF
 obtain ⟨b10,o11,es12,hl13,rr14,at15,yy16⟩:=ia E 18 19 qbp h4 e9
 obtain ⟨rfl,r17,r18,r19,l20⟩:=rr14
 refine lv E ok (yy16 _ _) fun a E=>lv E ok (qaj (cs:=[vi x8.Op,vi x8.A,vi x8.B,vs x8.S]) qiW rfl rfl (qac.ro at15)) fun a E=>qbh E ok qbl rfl rfl fun b21 a w E ok=>qai E ok 0 rfl rfl rfl qkD rfl rfl ⟨rfl,rfl,rfl,rfl,trivial⟩ rfl rfl fun w ok=>wn<|sg<|fk E ok qeB qat rfl 0 rfl rfl fun a E=>bd hF fun r22 e23 hF=>qas E qrr rfl (qkg N x8.Op r17 e23 hG ok) rfl rfl ?_
 rintro _ w ⟨m24,vs25,rfl,hle,ok,h26⟩
 have le_m0:=le_m0.trans hle
 have h2:=(mL mS).up hle h2
 have h4:=(mL mIns).up hle h4
 have at15:=At.up hle at15
 obtain ⟨rfl⟩:=h26
 refine ⟨_,rfl,fun a E=>?_⟩
 refine mv E rfl fun a E=>lw E (qaF rfl rfl) fun a E=>lw E (qaF rfl rfl) fun a E=>qbh E ok qc3 rfl rfl fun b27 a w E ok=>qai E ok 0 rfl rfl rfl qku rfl rfl ⟨rfl,rfl,rfl,trivial⟩ rfl rfl fun w ok=>aw E rfl fun a E=>wp_seq<|wp_seq<|bd hF fun o28 hJ hF=>qaK (Q':=fun e a w=>e = .normal ∧ Ok u m24 ([(b27,oc 56 [vb r22.1.a,vb r22.1.b,vb r22.1.s])] :: [(b21,oc 38 [vi x8.Op,vi x8.A,vi x8.B,vs x8.S])] :: [(b5,oc 28 [c1,c3])] :: S) w ∧ Env 168 a [(1,vi i_1),(2,vp b5),(5,vp b21),(59,vb o28)]) ?_ ?_
 ·as_aux_lemma =>
   have hF:=hJ
   refine qab<|mv E rfl fun a E=>lw E (qaz rfl) fun a E=>mv E rfl fun a E=>bu E 30 hF (fun c29 hF E=>?_) fun c29 hF E=>?_
   ·refine lsz E fun a E=>lsz E fun a E=>pt E rfl rfl fun a E=>mv E rfl fun a E=>lsz E fun a E=>lsq E fun a E=>?_
    refine lsq E fun a E=>pt E rfl rfl fun a E=>mv E rfl fun a E=>lsz E fun a E=>lsz E fun a E=>pt E rfl rfl fun a E=>wpList_nil ?_
    cases hF
    exact ⟨rfl,⟨ok,E.keep [1,2,5,59]⟩⟩
   refine fk E ok qqf qen rfl 0 rfl rfl fun a E=>lw E (qaz rfl) fun a E=>mv E rfl fun a E=>bw E 34 hF (fun c30 hF E=>?_) fun c30 hF E=>?_
   ·as_aux_lemma =>
     refine lsq E fun a E=>ls E fun a E=>pf E rfl rfl fun a E=>pf E rfl rfl fun a E=>mv E rfl fun a E=>fk E ok qmV qen rfl 0 rfl rfl fun a E=>lw E (qaz rfl) fun a E=>mv E rfl fun a E=>bw E 44 hF (fun c36 hF E=>?_) fun c36 hF E=>?_
     ·refine lsq E fun a E=>ls E fun a E=>pf E rfl rfl fun a E=>pf E rfl rfl fun a E=>mv E rfl fun a E=>fk E ok qjv qen rfl 0 rfl rfl fun a E=>lw E (qaz rfl) fun a E=>mv E rfl fun a E=>bu E 54 hF (fun c39 hF E=>?_) fun c39 hF E=>?_
      ·refine fk E ok qdy qah rfl 1 rfl rfl fun a E=>lw E (qbB rfl rfl) fun a E=>pt E rfl rfl fun a E=>pf E rfl rfl fun a E=>wpList_nil ?_
       cases hF
       exact ⟨rfl,⟨ok,E.keep [1,2,5,59]⟩⟩
      refine lsq E fun a E=>ls E fun a E=>pf E rfl rfl fun a E=>pf E rfl rfl fun a E=>wpList_nil ?_
      cases hF
      exact ⟨rfl,⟨ok,E.keep [1,2,5,59]⟩⟩
     refine fk E ok qjx qat rfl 1 rfl rfl fun a E=>lw E (qda rfl rfl) fun a E=>pt E rfl rfl fun a E=>pf E rfl rfl fun a E=>mv E rfl fun a E=>bu E 50 hF (fun c37 hF E=>?_) fun c37 hF E=>?_
     ·refine lsz E fun a E=>lsz E fun a E=>pt E rfl rfl fun a E=>wpList_nil ?_
      cases hF
      exact ⟨rfl,⟨ok,E.keep [1,2,5,59]⟩⟩
     refine fk E ok qjv qen rfl 0 rfl rfl fun a E=>lw E (qaz rfl) fun a E=>mv E rfl fun a E=>bu E 54 hF (fun c38 hF E=>?_) fun c38 hF E=>?_
     ·refine fk E ok qdy qah rfl 1 rfl rfl fun a E=>lw E (qbB rfl rfl) fun a E=>pt E rfl rfl fun a E=>pf E rfl rfl fun a E=>wpList_nil ?_
      cases hF
      exact ⟨rfl,⟨ok,E.keep [1,2,5,59]⟩⟩
     refine lsq E fun a E=>ls E fun a E=>pf E rfl rfl fun a E=>pf E rfl rfl fun a E=>wpList_nil ?_
     cases hF
     exact ⟨rfl,⟨ok,E.keep [1,2,5,59]⟩⟩
   refine fk E ok qef qat rfl 1 rfl rfl fun a E=>lw E (qda rfl rfl) fun a E=>pt E rfl rfl fun a E=>pf E rfl rfl fun a E=>mv E rfl fun a E=>bu E 40 hF (fun c31 hF E=>?_) fun c31 hF E=>?_
   ·refine lsz E fun a E=>lsz E fun a E=>pt E rfl rfl fun a E=>mv E rfl fun a E=>lsz E fun a E=>lsq E fun a E=>?_
    refine lsq E fun a E=>pt E rfl rfl fun a E=>wpList_nil ?_
    cases hF
    exact ⟨rfl,⟨ok,E.keep [1,2,5,59]⟩⟩
   refine fk E ok qmV qen rfl 0 rfl rfl fun a E=>lw E (qaz rfl) fun a E=>mv E rfl fun a E=>bw E 44 hF (fun c32 hF E=>?_) fun c32 hF E=>?_
   ·refine lsq E fun a E=>ls E fun a E=>pf E rfl rfl fun a E=>pf E rfl rfl fun a E=>mv E rfl fun a E=>fk E ok qjv qen rfl 0 rfl rfl fun a E=>lw E (qaz rfl) fun a E=>mv E rfl fun a E=>bu E 54 hF (fun c35 hF E=>?_) fun c35 hF E=>?_
    ·refine fk E ok qdy qah rfl 1 rfl rfl fun a E=>lw E (qbB rfl rfl) fun a E=>pt E rfl rfl fun a E=>pf E rfl rfl fun a E=>wpList_nil ?_
     cases hF
     exact ⟨rfl,⟨ok,E.keep [1,2,5,59]⟩⟩
    refine lsq E fun a E=>ls E fun a E=>pf E rfl rfl fun a E=>pf E rfl rfl fun a E=>wpList_nil ?_
    cases hF
    exact ⟨rfl,⟨ok,E.keep [1,2,5,59]⟩⟩
   refine fk E ok qjx qat rfl 1 rfl rfl fun a E=>lw E (qda rfl rfl) fun a E=>pt E rfl rfl fun a E=>pf E rfl rfl fun a E=>mv E rfl fun a E=>bu E 50 hF (fun c33 hF E=>?_) fun c33 hF E=>?_
   ·refine lsz E fun a E=>lsz E fun a E=>pt E rfl rfl fun a E=>wpList_nil ?_
    cases hF
    exact ⟨rfl,⟨ok,E.keep [1,2,5,59]⟩⟩
   refine fk E ok qjv qen rfl 0 rfl rfl fun a E=>lw E (qaz rfl) fun a E=>mv E rfl fun a E=>bu E 54 hF (fun c34 hF E=>?_) fun c34 hF E=>?_
   ·refine fk E ok qdy qah rfl 1 rfl rfl fun a E=>lw E (qbB rfl rfl) fun a E=>pt E rfl rfl fun a E=>pf E rfl rfl fun a E=>wpList_nil ?_
    cases hF
    exact ⟨rfl,⟨ok,E.keep [1,2,5,59]⟩⟩
   refine lsq E fun a E=>ls E fun a E=>pf E rfl rfl fun a E=>pf E rfl rfl fun a E=>wpList_nil ?_
   cases hF
   exact ⟨rfl,⟨ok,E.keep [1,2,5,59]⟩⟩
 intro e a w hO
 obtain ⟨rfl,ok,E⟩:=hO
 refine qaa<|cf E rfl hF (fun c40 hF=>?_) fun c40 hF=>?_
 ·refine sg<|aw E rfl fun a E=>wp_ret<|qaf ?_
  exact fin hF ⟨(ok.drop.drop.drop).down hb0 le_m0,E.d,rz E rfl⟩
 refine wp_skip<|qaa<|wp_seq<|wp_seq<|bd hF fun o41 hJ hF=>qaK (Q':=fun e a w=>e = .normal ∧ Ok u m24 ([(b27,oc 56 [vb r22.1.a,vb r22.1.b,vb r22.1.s])] :: [(b21,oc 38 [vi x8.Op,vi x8.A,vi x8.B,vs x8.S])] :: [(b5,oc 28 [c1,c3])] :: S) w ∧ Env 168 a [(1,vi i_1),(2,vp b5),(5,vp b21),(80,vb o41)]) ?_ ?_
 ·as_aux_lemma =>
   have hF:=hJ
   refine qab<|fk E ok qeB qat rfl 1 rfl rfl fun a E=>lw E (qcB rfl rfl) fun a E=>mv E rfl fun a E=>bw E 63 hF (fun c42 hF E=>?_) fun c42 hF E=>?_
   ·refine lsq E fun a E=>ls E fun a E=>pf E rfl rfl fun a E=>mv E rfl fun a E=>lsz E fun a E=>lsz E fun a E=>lsq E fun a E=>ls E fun a E=>?_
    refine pf E rfl rfl fun a E=>wpList_nil ?_
    cases hF
    exact ⟨rfl,⟨ok,E.keep [1,2,5,80]⟩⟩
   refine fk E ok qeB qat rfl 1 rfl rfl fun a E=>lw E (qcd rfl rfl) fun a E=>pt E rfl rfl fun a E=>mv E rfl fun a E=>bw E 68 hF (fun c43 hF E=>?_) fun c43 hF E=>?_
   ·refine lsz E fun a E=>lsz E fun a E=>lsq E fun a E=>ls E fun a E=>pf E rfl rfl fun a E=>wpList_nil ?_
    cases hF
    exact ⟨rfl,⟨ok,E.keep [1,2,5,80]⟩⟩
   refine fk E ok qef qat rfl 1 rfl rfl fun a E=>lw E (qaJ rfl rfl) fun a E=>mv E rfl fun a E=>bu E 72 hF (fun c44 hF E=>?_) fun c44 hF E=>?_
   ·refine lsz E fun a E=>lsq E fun a E=>pt E rfl rfl fun a E=>pt E rfl rfl fun a E=>wpList_nil ?_
    cases hF
    exact ⟨rfl,⟨ok,E.keep [1,2,5,80]⟩⟩
   refine fk E ok qef qat rfl 1 rfl rfl fun a E=>fk E ok qgQ qi0 rfl 2 rfl rfl fun a E=>lv E ok (qax qbx h2 rfl) fun a E=>lw E (qcB rfl rfl) fun a E=>pf E rfl rfl fun a E=>pt E rfl rfl fun a E=>wpList_nil ?_
   cases hF
   exact ⟨rfl,⟨ok,E.keep [1,2,5,80]⟩⟩
 intro e a w hO
 obtain ⟨rfl,ok,E⟩:=hO
 refine qaa<|cf E rfl hF (fun c45 hF=>?_) fun c45 hF=>?_
 ·refine sg<|aw E rfl fun a E=>wp_ret<|qaf ?_
  exact fin hF ⟨(ok.drop.drop.drop).down hb0 le_m0,E.d,rz E rfl⟩
 refine wp_skip<|qaa<|wp_seq<|sg<|fk E ok qeB qat rfl 1 rfl rfl fun a E=>wn<|wp_block<|sg<|lw E (qao rfl rfl) fun a E=>aw E rfl fun a E=>cf E rfl hF (fun c46 hF=>?_) fun c46 hF=>?_
 ·refine sg<|fk E ok qdy qah rfl 1 rfl rfl fun a E=>lw E (qbB rfl rfl) fun a E=>aw E rfl fun a E=>wp_ret<|qam<|qaf ?_
  exact fin hF ⟨(ok.drop.drop.drop).down hb0 le_m0,E.d,rz E rfl⟩
 refine wp_seq<|sg<|lw E (qao rfl rfl) fun a E=>aw E rfl fun a E=>bd hF fun o47 hJ hF=>qaK (Q':=fun e a w=>e = .normal ∧ Ok u m24 ([(b27,oc 56 [vb r22.1.a,vb r22.1.b,vb r22.1.s])] :: [(b21,oc 38 [vi x8.Op,vi x8.A,vi x8.B,vs x8.S])] :: [(b5,oc 28 [c1,c3])] :: S) w ∧ Env 168 a [(1,vi i_1),(2,vp b5),(5,vp b21),(82,vi x8.Op),(88,vb o47)]) ?_ ?_
 ·have hF:=hJ
  refine cf E rfl hF (fun c48 hF=>?_) fun c48 hF=>?_
  ·refine wp_skip ?_
   cases hF
   exact ⟨rfl,⟨ok,E.keep [1,2,5,82,88]⟩⟩
  refine sg<|lw E (qao rfl rfl) fun a E=>aw E rfl fun a E=>cf E rfl hF (fun c49 hF=>?_) fun c49 hF=>?_
  ·refine wp_skip ?_
   cases hF
   exact ⟨rfl,⟨ok,E.keep [1,2,5,82,88]⟩⟩
  refine sg<|lw E (qao rfl rfl) fun a E=>aw E rfl fun a E=>cf E rfl hF (fun c50 hF=>?_) fun c50 hF=>?_
  ·refine wp_skip ?_
   cases hF
   exact ⟨rfl,⟨ok,E.keep [1,2,5,82,88]⟩⟩
  refine sg<|lw E (qao rfl rfl) fun a E=>aw E rfl fun a E=>cf E rfl hF (fun c51 hF=>?_) fun c51 hF=>?_
  ·refine wp_skip ?_
   cases hF
   exact ⟨rfl,⟨ok,E.keep [1,2,5,82,88]⟩⟩
  refine qab<|lw E (qao rfl rfl) fun a E=>av E rfl fun a E=>wpList_nil ?_
  cases hF
  exact ⟨rfl,⟨ok,E.keep [1,2,5,82,88]⟩⟩
 intro e a w hO
 obtain ⟨rfl,ok,E⟩:=hO
 refine qaa<|cf E rfl hF (fun c52 hF=>?_) fun c52 hF=>?_
 ·refine sg<|fk E ok qdy qah rfl 1 rfl rfl fun a E=>bd hF fun r53 e54 hF=>lc E qip rfl (qd7 N x8.S l20 e54 hG ok) fun w ok a E=>aw E rfl fun a E=>wp_ret<|qam<|qaf ?_
  exact fin hF ⟨(ok.drop.drop.drop).down hb0 le_m0,E.d,rz E rfl⟩
 refine sg<|lw E (qao rfl rfl) fun a E=>aw E rfl fun a E=>cf E rfl hF (fun c55 hF=>?_) fun c55 hF=>?_
 ·refine sg<|fk E ok qdy qah rfl 1 rfl rfl fun a E=>lw E (qbf rfl rfl) fun a E=>mv E rfl fun a E=>bu E 102 hF (fun c56 hF E=>?_) fun c56 hF E=>?_
  ·refine lsq E fun a E=>ls E fun a E=>pt E rfl rfl fun a E=>mv E rfl fun a E=>lsq E fun a E=>ls E fun a E=>pt E rfl rfl fun a E=>aw E rfl fun a E=>wp_ret<|qam<|qaf ?_
   exact fin hF ⟨(ok.drop.drop.drop).down hb0 le_m0,E.d,rz E rfl⟩
  refine fk E ok qdy qah rfl 1 rfl rfl fun a E=>lw E (qbf rfl rfl) fun a E=>pf E rfl rfl fun a E=>mv E rfl fun a E=>bu E 107 hF (fun c57 hF E=>?_) fun c57 hF E=>?_
  ·refine lsq E fun a E=>ls E fun a E=>pt E rfl rfl fun a E=>aw E rfl fun a E=>wp_ret<|qam<|qaf ?_
   exact fin hF ⟨(ok.drop.drop.drop).down hb0 le_m0,E.d,rz E rfl⟩
  refine fk E ok qdy qah rfl 1 rfl rfl fun a E=>lw E (qbf rfl rfl) fun a E=>pf E rfl rfl fun a E=>aw E rfl fun a E=>wp_ret<|qam<|qaf ?_
  exact fin hF ⟨(ok.drop.drop.drop).down hb0 le_m0,E.d,rz E rfl⟩
 refine sg<|lw E (qao rfl rfl) fun a E=>aw E rfl fun a E=>cf E rfl hF (fun c58 hF=>?_) fun c58 hF=>?_
 ·refine sg<|fk E ok qdy qah rfl 1 rfl rfl fun a E=>bd hF fun r59 e60 hF=>lc E qqW rfl (qjD N x8.S l20 e60 hG ok) fun w ok a E=>aw E rfl fun a E=>wp_ret<|qam<|qaf ?_
  exact fin hF ⟨(ok.drop.drop.drop).down hb0 le_m0,E.d,rz E rfl⟩
 refine sg<|lw E (qao rfl rfl) fun a E=>aw E rfl fun a E=>cf E rfl hF (fun c61 hF=>?_) fun c61 hF=>?_
 ·refine sg<|lv E ok (qaj (cs:=[c1,c3]) qd5 rfl rfl (qac.own 2 rfl rfl)) fun a E=>mv E rfl fun a E=>bd hF fun r62 e63 hF=>lc E qrh rfl (qhS N _ c_0 ⟨_,_,rfl,h2,h4⟩ i_1 ri_1 e63 hG ok) fun w ok a E=>aw E rfl fun a E=>wp_ret<|qam<|qaf ?_
  exact fin hF ⟨(ok.drop.drop.drop).down hb0 le_m0,E.d,rz E rfl⟩
 refine sg<|lw E (qao rfl rfl) fun a E=>aw E rfl fun a E=>cg E rfl hF (fun c64 hF=>?_) fun c64 hF=>?_
 ·refine sg<|lw E (qao rfl rfl) fun a E=>aw E rfl fun a E=>cf E rfl hF (fun c98 hF=>?_) fun c98 hF=>?_
  ·refine sg<|lv E ok (qaj (cs:=[c1,c3]) qd5 rfl rfl (qac.own 2 rfl rfl)) fun a E=>mv E rfl fun a E=>fk E ok qef qat rfl 1 rfl rfl fun a E=>bd hF fun r99 e100 hF=>lc E qnw rfl (qfL N _ c_0 ⟨_,_,rfl,h2,h4⟩ i_1 ri_1 x8.A r18 e100 hG ok) fun w ok a E=>aw E rfl fun a E=>wp_ret<|qam<|qaf ?_
   exact fin hF ⟨(ok.drop.drop.drop).down hb0 le_m0,E.d,rz E rfl⟩
  refine sg<|lw E (qao rfl rfl) fun a E=>aw E rfl fun a E=>cg E rfl hF (fun c101 hF=>?_) fun c101 hF=>?_
  ·refine wp_skip<|qag<|qaa<|sg<|aw E rfl fun a E=>wp_ret ?_
   exact fin hF ⟨(ok.drop.drop.drop).down hb0 le_m0,E.d,rz E rfl⟩
  refine sg<|mv E rfl fun a E=>fk E ok qbF qbO rfl 2 rfl rfl fun a E=>lv E ok (qax qbp h4 rfl) fun a E=>lw E (qh0 rfl rfl) fun a E=>lw E (qao rfl rfl) fun a E=>aw E rfl fun a E=>wp_ret<|qam<|qaf ?_
  exact fin hF ⟨(ok.drop.drop.drop).down hb0 le_m0,E.d,rz E rfl⟩
 refine sg<|mv E rfl fun a E=>lw E (qa9 rfl rfl) fun a E=>mv E rfl fun a E=>bw E 126 hF (fun c65 hF E=>?_) fun c65 hF E=>?_
 ·refine lsz E fun a E=>lsz E fun a E=>lsz E fun a E=>lsz E fun a E=>?_
  refine lsq E fun a E=>pf E rfl rfl fun a E=>mv E rfl fun a E=>lsz E fun a E=>ls E fun a E=>pf E rfl rfl fun a E=>aw E rfl fun a E=>wp_ret<|qam<|qaf ?_
  exact fin hF ⟨(ok.drop.drop.drop).down hb0 le_m0,E.d,rz E rfl⟩
 refine fk E ok qbF qbO rfl 2 rfl rfl fun a E=>mv E rfl fun a E=>lw E (qkA rfl rfl (InR.dec ri_1 (ir 0) c65)) fun a E=>?_
 obtain ⟨x66,e67,hF⟩:=bnd hF
 obtain ⟨b68,o69,es70,hl71,rr72,at73,yy74⟩:=ia E 128 130 qbp h4 e67
 obtain ⟨rfl,r75,r76,r77,l78⟩:=rr72
 refine lv E ok (yy74 _ _) fun a E=>fv E qeB rfl fun a E=>lv E ok (qak qat rfl (qac.ro (At.sub 0 1 at73))) fun a E=>lw E (qao rfl rfl) fun a E=>mv E rfl fun a E=>bu E 135 hF (fun c79 hF E=>?_) fun c79 hF E=>?_
 ·refine lsz E fun a E=>lsz E fun a E=>pt E rfl rfl fun a E=>pt E rfl rfl fun a E=>mv E rfl fun a E=>lv E ok (qaj (cs:=[c1,c3]) qd5 rfl rfl (qac.own 2 rfl rfl)) fun a E=>mv E rfl fun a E=>fk E ok qef qat rfl 1 rfl rfl fun a E=>?_
  refine bd hF fun r80 e81 hF=>lc E qnw rfl (qfL N _ c_0 ⟨_,_,rfl,h2,h4⟩ i_1 ri_1 x8.A r18 e81 hG ok) fun w ok a E=>pt E rfl rfl fun a E=>aw E rfl fun a E=>wp_ret<|qam<|qaf ?_
  exact fin hF ⟨(ok.drop.drop.drop).down hb0 le_m0,E.d,rz E rfl⟩
 refine fk E ok qbF qbO rfl 2 rfl rfl fun a E=>mv E rfl fun a E=>lw E (qkA rfl rfl (InR.dec ri_1 (ir 0) c65)) fun a E=>?_
 obtain ⟨x82,e83,hF⟩:=bnd hF
 obtain ⟨b84,o85,es86,hl87,rr88,at89,yy90⟩:=ia E 137 139 qbp h4 e83
 obtain ⟨rfl,r91,r92,r93,l94⟩:=rr88
 refine lv E ok (yy90 _ _) fun a E=>fv E qeB rfl fun a E=>lv E ok (qak qat rfl (qac.ro (At.sub 0 1 at89))) fun a E=>lw E (qao rfl rfl) fun a E=>pf E rfl rfl fun a E=>pt E rfl rfl fun a E=>mv E rfl fun a E=>bw E 146 hF (fun c95 hF E=>?_) fun c95 hF E=>?_
 ·refine lsz E fun a E=>ls E fun a E=>pf E rfl rfl fun a E=>av E rfl fun a E=>wn<|wp_ret<|qam<|qaf ?_
  exact fin hF ⟨(ok.drop.drop.drop).down hb0 le_m0,E.d,rz E rfl⟩
 refine lv E ok (qaj (cs:=[c1,c3]) qd5 rfl rfl (qac.own 2 rfl rfl)) fun a E=>mv E rfl fun a E=>fk E ok qef qat rfl 1 rfl rfl fun a E=>bd hF fun r96 e97 hF=>lc E qnw rfl (qfL N _ c_0 ⟨_,_,rfl,h2,h4⟩ i_1 ri_1 x8.A r18 e97 hG ok) fun w ok a E=>pt E rfl rfl fun a E=>aw E rfl fun a E=>wp_ret<|qam<|qaf ?_
 exact fin hF ⟨(ok.drop.drop.drop).down hb0 le_m0,E.d,rz E rfl⟩
def qh1 (u:World) (m0:Mem) (S:Segs) (r:Bool) (a:Act) (w:World):Prop :=
 Ok u m0 S w ∧ a.defers = [] ∧ RVs Tryz.prog a w [.t 2 (.bool r)]
theorem qk8 (N:Nat) (vl_0:Value) (l_0:List (List UInt8)) (hl_0:(pL 1 pS) m0 [vl_0] l_0) {r:Bool} (hF:qe7 N l_0 = some r) (hG:Glob u) (ok:Ok u m0 S w) :
  Calls Tryz.prog 38 [vl_0].toArray w fun e w'=>(e = .returned (.bool r) ∧ Ok u m0 S w'):=by
 unfold qe7 at hF
 refine en (qh1 u m0 S) r Tryz.func38 rfl rfl rfl (fun _ _ h=>ra h rfl) fun fin a E=>sg<|aw E rfl fun a E=>sg<|qhi kS (oneV pB) E ok rfl rfl fun c1 M2 a w E ok h3=>aw E rfl fun a E=>wp_seq<|sg<|mv E rfl fun a E=>lv E ok (qax qbx hl_0 rfl) fun a E=>mv E rfl fun a E=>wn<|wp_block<|bd hF fun o9 hL hF=>qaX _ (fun (s:Int × (List (List UInt8 × Bool))) a w=>∃ c11 M12,Ok u m0 (M12 :: S) w ∧ Env 27 a [(0,vl_0),(3,c11),(7,vl_0),(8,(vi (l_0.length:Int))),(9,vi s.1)] ∧ InR .i64 s.1 ∧ OMap kS (oneV pB) m0 c11 s.2 M12) (fun (b:(Unit ⊕ Bool)) e a w=>(Sum.elim (fun b43=>e = (.exit 0) ∧ Ok u m0 (S) w ∧ Env 27 a [(0,vl_0)]) (fun b44=>e = .ret ∧ qh1 u m0 S b44 a w)) b) ?_ ?_ N _ a w hL ⟨c1,M2,ok,E.keep [0,3,7,8,9],(ir 0),h3⟩
 rotate_left
 ·intro e a w _ hO
  rcases o9 with o9 | o9
  rotate_left
  ·obtain ⟨rfl,hret⟩:=hO
   refine qam<|qaf ?_
   exact fin hF hret
  have hF:=qcl hF
  obtain ⟨rfl,ok,E⟩:=hO
  refine qba<|qaa<|sg<|mv E rfl fun a E=>lv E ok (qax qbx hl_0 rfl) fun a E=>lw E (qcd rfl rfl) fun a E=>av E rfl fun a E=>wn<|wp_ret ?_
  exact fin hF ⟨ok,E.d,rz E rfl⟩
 rintro ⟨v14,v15⟩ a w r ⟨c17,M18,ok,E,r16,h19⟩ hF
 replace hF:qcQ N l_0 v14 v15 = some r:=hF
 unfold qcQ at hF
 refine sg<|lw E (qaJ rfl rfl) fun a E=>wn<|wp_seq<|cg E rfl hF (fun c20 hF=>?_) fun c20 hF=>?_
 ·refine wp_exit<|qaO ?_
  cases hF
  exact so (sl ⟨rfl,⟨(ok.pk 1 [] rfl (by decide)),E.keep [0]⟩⟩)
 refine wp_skip<|qaa<|wp_seq<|wp_block<|sg ?_
 obtain ⟨x21,e22,hF⟩:=bnd hF
 obtain ⟨b23,o24,es25,hl26,rr27,at28,yy29⟩:=ia E 7 9 qbx hl_0 e22
 obtain ⟨rfl,l30⟩:=rr27
 refine lv E ok (yy29 _ _) fun a E=>lv E ok (qak qah rfl (qac.ro at28)) fun a E=>aw E rfl fun a E=>wp_seq<|sg<|mv E rfl fun a E=>bd hF fun r31 e32 hF=>lc E qip rfl (qd7 N x21 l30 e32 hG ok) fun w ok a E=>lw E (qaz rfl) fun a E=>mv E rfl fun a E=>bu E 16 hF (fun c33 hF E=>?_) fun c33 hF E=>?_
 ·refine lsq E fun a E=>ls E fun a E=>pt E rfl rfl fun a E=>wn<|c_if E rfl (fun _=>?_) (fun h=>by cases h)
  refine sg<|aw E rfl fun a E=>wp_ret<|qaf<|qam<|qaf ?_
  cases hF
  exact so (sr ⟨rfl,⟨ok.drop,E.d,rz E rfl⟩⟩)
 refine mz E rfl rfl fun a E=>?_
 obtain ⟨xv34,h35,yy36,yy37⟩:=qkk (P:=Tryz.prog) (mo:=.tmp 17) (ko:=.tmp 18) (zx:=(false:Bool)) ok 0 (qcc Tryz.underlying9) Tryz.underlying79 h19 rfl (qaS E rfl) (qaS E rfl) ⟨rfl,l30⟩ qhH qcO
 obtain rfl:=qjl h35
 refine lv E ok (yy36 _) fun a E=>pf E rfl rfl fun a E=>wn<|cf E rfl hF (fun c38 hF=>?_) fun c38 hF=>?_
 ·refine sg<|aw E rfl fun a E=>wp_ret<|qaf<|qam<|qaf ?_
  cases hF
  exact so (sr ⟨rfl,⟨ok.drop,E.d,rz E rfl⟩⟩)
 refine wp_skip<|qaa<|qab<|mz E rfl rfl fun a E=>bd hF fun l39 e40 hF=>qgY (.inl rfl) E ok 0 (qcc Tryz.underlying9) Tryz.underlying79 h19 rfl rfl rfl rfl ⟨rfl,l30⟩ qcO e40 rfl fun M41 w ok h42=>wpList_nil<|qag<|qaa<|qab<|lw E (qau rfl rfl (InR.inc r16 (qae hl_0) c20)) fun a E=>mv E rfl fun a E=>wpList_nil ?_
 cases hF
 exact qap ⟨c17,M41,ok,E.keep [0,3,7,8,9],(InR.inc r16 (qae hl_0) c20),h42⟩
def qlv (u:World) (m0:Mem) (S:Segs) (r:Bool) (a:Act) (w:World):Prop :=
 Ok u m0 S w ∧ a.defers = [] ∧ RVs Tryz.prog a w [.t 4 (.bool r)]
theorem qlp (N:Nat) (va:Value) (xs:List (List UInt8)) (ha:(pK 1 pS) m0 [va] xs) (vb:Value) (ys:List (List UInt8)) (hb:(pK 1 pS) m0 [vb] ys) {r:Bool} (hF:qhC N xs ys = some r) (hG:Glob u) (ok:Ok u m0 S w) :
  Calls Tryz.prog 62 [va,vb].toArray w fun e w'=>(e = .returned (.bool r) ∧ Ok u m0 S w'):=by
 cases hF
 obtain ⟨j82,hi82,hj82⟩:∃ j,Tryz.prog.info? 89 = some j ∧ j.size ≠ 0:=⟨_,rfl,of_decide_eq_true (by kernel_rfl)⟩
 have fin:∀ a w,qlv u m0 S (xs == ys) a w → bodyPost Tryz.prog Tryz.f62 (fun e w'=>(e = .returned (.bool (xs == ys)) ∧ Ok u m0 S w')) .ret a w:=by
  intro a w h
  obtain ⟨ok,hd,hrv⟩:=h
  exact qcw [.t 4 (.bool (xs == ys))] hd rfl hrv ⟨rfl,ok⟩
 refine enter Tryz.func62 rfl rfl rfl fun a E=>sg<|aw E rfl fun a E=>wp_seq<|wp_block<|qm2 (fun n a w=>∃ (va' vb':Value) (as' bs':List (List UInt8)),n = as'.length ∧ pK 1 pS m0 [va'] as' ∧ pK 1 pS m0 [vb'] bs' ∧ (xs == ys) = (as' == bs') ∧ Ok u m0 S w ∧ Env 36 a [(0,va'),(1,vb')]) ?_ xs.length a w ⟨va,vb,xs,ys,rfl,ha,hb,rfl,ok,E.keep [0,1]⟩
 rintro n a w ⟨va,vb,as',bs',rfl,ha,hb,heq,ok,E⟩
 have hx:(as' = [] ∨ bs' = [] ∨ va = vb) → ∀ c:Bool,(c = true ↔ va = vb) → (as' == bs') = c:=by
  intro h c hc
  by_cases e:va = vb
  ·have h1:c = true:=hc.2 e
   subst e
   rw [qnT qqo as' bs' _ ha hb,h1]; simp
  ·have h1:c = false:=by cases c with
    | false=>rfl
    | true=>exact absurd (hc.1 rfl) e
   rw [h1,beq_eq_false_iff_ne]
   rintro rfl
   have h2:as' = []:=by rcases h with h | h | h; exact h; exact h; exact absurd h e
   subst h2
   have e1:=(List.cons.inj (show [va] = [.pointer none] from ha)).1
   have e2:=(List.cons.inj (show [vb] = [.pointer none] from hb)).1
   exact e (e1.trans e2.symm)
 refine wp_seq<|sg<|mv E rfl fun a E=>lv E ok (qmO Tryz.underlying86 ha rfl rfl) fun a E=>mv E rfl fun a E=>?_
 cases as' with
 | nil =>
  refine lsq E fun a E=>pf E rfl rfl fun a E=>mv E rfl fun a E=>lsq E fun a E=>ls E fun a E=>pf E rfl rfl fun a E=>wn<|c_if E rfl (fun h=>(by cases h)) (fun _=>?_)
  refine wp_exit<|qaO<|.inr ⟨by nofun,?_⟩
  refine qba<|qaa<|sg<|mz E rfl rfl fun a E=>?_
  obtain ⟨c,hc,yq,_⟩:=qlB (P:=Tryz.prog) (u:=u) (S:=S) (t':=86) (x:=.tmp 33) (y:=.tmp 34) Tryz.underlying86 hi82 hj82 ha hb (qaS E rfl) (qaS E rfl)
  refine lv E ok (yq _) fun a E=>aw E rfl fun a E=>wp_ret ?_
  have e:(xs == ys) = c:=by rw [heq]; exact hx (.inl rfl) c hc
  exact fin _ _ ⟨ok,E.d,⟨by rw [e]; exact rv_t E rfl,trivial⟩⟩
 | cons x as2 =>
 refine mv E rfl fun a E=>lv E ok (qmO Tryz.underlying86 hb rfl rfl) fun a E=>pt E rfl rfl fun a E=>mv E rfl fun a E=>?_
 cases bs' with
 | nil =>
  refine lsq E fun a E=>ls E fun a E=>pf E rfl rfl fun a E=>wn<|c_if E rfl (fun h=>(by cases h)) (fun _=>?_)
  refine wp_exit<|qaO<|.inr ⟨by nofun,?_⟩
  refine qba<|qaa<|sg<|mz E rfl rfl fun a E=>?_
  obtain ⟨c,hc,yq,_⟩:=qlB (P:=Tryz.prog) (u:=u) (S:=S) (t':=86) (x:=.tmp 33) (y:=.tmp 34) Tryz.underlying86 hi82 hj82 ha hb (qaS E rfl) (qaS E rfl)
  refine lv E ok (yq _) fun a E=>aw E rfl fun a E=>wp_ret ?_
  have e:(xs == ys) = c:=by rw [heq]; exact hx (.inr (.inl rfl)) c hc
  exact fin _ _ ⟨ok,E.d,⟨by rw [e]; exact rv_t E rfl,trivial⟩⟩
 | cons y bs2 =>
 refine mz E rfl rfl fun a E=>?_
 obtain ⟨c1,c1,_,yn⟩:=qlB (P:=Tryz.prog) (u:=u) (S:=S) (t':=86) (x:=.tmp 12) (y:=.tmp 13) Tryz.underlying86 hi82 hj82 ha hb (qaS E rfl) (qaS E rfl)
 refine lv E ok (yn _) fun a E=>pt E rfl rfl fun a E=>wn<|c_if E rfl (fun _=>?_) (fun hne=>?_)
 rotate_left
 ·have hv:va = vb:=c1.1 (by simpa using hne)
  refine wp_exit<|qaO<|.inr ⟨by nofun,?_⟩
  refine qba<|qaa<|sg<|mz E rfl rfl fun a E=>?_
  obtain ⟨c,hc,yq,_⟩:=qlB (P:=Tryz.prog) (u:=u) (S:=S) (t':=86) (x:=.tmp 33) (y:=.tmp 34) Tryz.underlying86 hi82 hj82 ha hb (qaS E rfl) (qaS E rfl)
  refine lv E ok (yq _) fun a E=>aw E rfl fun a E=>wp_ret ?_
  have e:(xs == ys) = c:=by rw [heq]; exact hx (.inr (.inr hv)) c hc
  exact fin _ _ ⟨ok,E.d,⟨by rw [e]; exact rv_t E rfl,trivial⟩⟩
 refine wp_skip<|qaa<|wp_block<|wp_seq<|wp_seq ?_
 obtain ⟨b1,o1,es1,v1,hv1,hR1,hr1,at1⟩:=qks ha (q:=(x,as2)) rfl
 obtain ⟨b2,o2,es2,v2,hv2,hR2,hr2,at2⟩:=qks hb (q:=(y,bs2)) rfl
 obtain ⟨rfl,l1⟩:=hR1
 obtain ⟨rfl,l2⟩:=hR2
 refine qdB (by kernel_rfl) (by kernel_rfl) ok<|qv E (qal rfl) fun a E=>qv E (qev hv1 rfl) fun a E=>qv E (qad qkS rfl) fun a E=>qv E (qak qah rfl (qac.ro (At.sub 0 1 at1))) fun a E=>qv E (qal rfl) fun a E=>qv E (qev hv2 rfl) fun a E=>qv E (qad qkS rfl) fun a E=>qv E (qak qah rfl (qac.ro (At.sub 0 1 at2))) fun a E=>qv E (qbB rfl rfl) fun a E=>wpQuiet_nil ?_
 intro w ok
 refine qaa<|c_if E rfl (fun hd=>?_) (fun hd=>?_)
 ·refine sg<|aw E rfl fun a E=>wp_ret<|qaf<|qam<|.inr ⟨by nofun,?_⟩
  refine qam<|qaf ?_
  have e:(xs == ys) = false:=by
   rw [heq,beq_eq_false_iff_ne]
   intro h
   have h1:=(List.cons.inj h).1
   subst h1
   simp at hd
  exact fin _ _ ⟨ok,E.d,⟨by rw [e]; exact rv_t E rfl,trivial⟩⟩
 refine wp_skip<|qaa<|qdB (by kernel_rfl) (by kernel_rfl) ok<|qv E (qal rfl) fun a E=>qv E (qev hv1 rfl) fun a E=>qv E (qad qkG rfl) fun a E=>qv E (qak qi7 rfl (qac.ro (At.sub 1 1 at1))) fun a E=>qv E (qal rfl) fun a E=>qv E (qev hv2 rfl) fun a E=>qv E (qad qkG rfl) fun a E=>qv E (qak qi7 rfl (qac.ro (At.sub 1 1 at2))) fun a E=>qv E (qa4 rfl) fun a E=>qv E (qa4 rfl) fun a E=>wpQuiet_nil ?_
 intro w ok
 refine qag ?_
 have hxy:x = y:=by simpa using hd
 refine .inl ⟨rfl,as2.length,by simp,v1,v2,as2,bs2,rfl,hr1,hr2,?_,ok,E.keep [0,1]⟩
 rw [heq,hxy]
 simp
def qi3 (u:World) (m0:Mem) (S:Segs) (pb0:Nat) (x0:Flow) (c1:Value) (c3:Value) (c5:Value) (M6:List (Nat × Obj)) (c8:Value) (M9:List (Nat × Obj)) (c11:Value) (M12:List (Nat × Obj)) (r:Flow) (a:Act) (w:World):Prop :=
 ∃ m1 c14 c16 c18 M19 c21 M22 c24 M25,m0.le m1 ∧ Ok u m1 ([(pb0,oc 54 [c14,c16,c18,c21,c24])] :: M19 :: M22 :: M25 :: S) w ∧ a.defers = [] ∧ RVs Tryz.prog a w [] ∧ (pL 1 pS) m1 [c14] r.c.Names ∧ (pL 4 pIns) m1 [c16] r.c.Ins ∧ ORow 86 1 (pK 1 pS) m1 c18 r.open_ M19 ∧ ORow 4 1 pB m1 c21 r.reached M22 ∧ ORow 4 1 pB m1 c24 r.clash M25
theorem qdE (N:Nat) (to_1:Int) (rto_1:InR .i64 to_1) (vopen_2:Value) (open_2:List (List UInt8)) (hopen_2:(pK 1 pS) m0 [vopen_2] open_2) {pb0:Nat} {c1:Value} {c3:Value} {c5:Value} {M6:List (Nat × Obj)} {c8:Value} {M9:List (Nat × Obj)} {c11:Value} {M12:List (Nat × Obj)} (x0:Flow) (h2:(pL 1 pS) m0 [c1] x0.c.Names) (h4:(pL 4 pIns) m0 [c3] x0.c.Ins) (h7:ORow 86 1 (pK 1 pS) m0 c5 x0.open_ M6) (h10:ORow 4 1 pB m0 c8 x0.reached M9) (h13:ORow 4 1 pB m0 c11 x0.clash M12) {r:Flow} (hF:qbC N to_1 open_2 x0 = some r) (hG:Glob u) (ok:Ok u m0 ([(pb0,oc 54 [c1,c3,c5,c8,c11])] :: M6 :: M9 :: M12 :: S) w) :
  Calls Tryz.prog 52 [vp pb0,vi to_1,vopen_2].toArray w fun e w'=>∃ m1 c14 c16 c18 M19 c21 M22 c24 M25,e = .returned (.tuple [].toArray) ∧ m0.le m1 ∧ Ok u m1 ([(pb0,oc 54 [c14,c16,c18,c21,c24])] :: M19 :: M22 :: M25 :: S) w' ∧ (pL 1 pS) m1 [c14] r.c.Names ∧ (pL 4 pIns) m1 [c16] r.c.Ins ∧ ORow 86 1 (pK 1 pS) m1 c18 r.open_ M19 ∧ ORow 4 1 pB m1 c21 r.reached M22 ∧ ORow 4 1 pB m1 c24 r.clash M25:=by
 have le_m0:=Mem.le.refl m0
 unfold qbC at hF
 refine en (qi3 u m0 S pb0 x0 c1 c3 c5 M6 c8 M9 c11 M12) r Tryz.func52 rfl rfl rfl (by rintro a w ⟨m1,c14,c16,c18,M19,c21,M22,c24,M25,hle,ok,hd,hrv,h0,h1,h2,h3,h4⟩; exact qcw [] hd rfl hrv ⟨m1,c14,c16,c18,M19,c21,M22,c24,M25,rfl,hle,ok,h0,h1,h2,h3,h4⟩) fun fin a E=>wp_seq<|sg<|mv E rfl fun a E=>lw E (qaE rfl) fun a E=>fk E ok qhK qfj rfl 0 rfl rfl fun a E=>mv E rfl fun a E=>?_
 obtain ⟨x27,e28,hF⟩:=bnd hF
 obtain ⟨b29,o30,hp31,yy32⟩:=qdd qdm h10 e28 (P:=Tryz.prog) (X:=.tmp 9) (I:=.tmp 10) (kd:=.i64) (qaS E rfl) (qaS E rfl)
 refine lv E ok (yy32 _ _) fun a E=>?_
 obtain ⟨es33,hl34,rr35,hh36⟩:=qeT h10 e28 hp31 (by decide)
 obtain rfl:=rr35
 refine lv E ok (qak qen rfl (hh36 _ _ _ 2 rfl)) fun a E=>wn<|cg E rfl hF (fun c37 hF=>?_) fun c37 hF=>?_
 ·refine wp_skip<|qaa<|bd hF fun o156 hJ hF=>qaK (Q':=fun e a w=>e = .normal ∧ ∃ c157 c159 c161 M162 c164 M165 c167 M168,Ok u m0 ([(pb0,oc 54 [c157,c159,c161,c164,c167])] :: M162 :: M165 :: M168 :: S) w ∧ Env 51 a [] ∧ (pL 1 pS) m0 [c157] o156.c.Names ∧ (pL 4 pIns) m0 [c159] o156.c.Ins ∧ ORow 86 1 (pK 1 pS) m0 c161 o156.open_ M162 ∧ ORow 4 1 pB m0 c164 o156.reached M165 ∧ ORow 4 1 pB m0 c167 o156.clash M168) ?_ ?_
  rotate_left
  ·intro e a w hO
   obtain ⟨rfl,c202,c204,c206,M207,c209,M210,c212,M213,ok,E,h203,h205,h208,h211,h214⟩:=hO
   exact fin hF ⟨m0,c202,c204,c206,M207,c209,M210,c212,M213,le_m0,ok,E.d,trivial,h203,h205,h208,h211,h214⟩
  have hF:=hJ
  obtain ⟨x170,e171,hF⟩:=bnd hF
  obtain ⟨l176,e177,hF⟩:=bnd hF
  obtain ⟨x180,e181,hF⟩:=bnd hF
  obtain ⟨l186,e187,hF⟩:=bnd hF
  obtain rfl:=sj hF
  refine qbT [3,8] (Cls u m0 ([(pb0,oc 54 [c1,c3,c5,c8,c11])] :: M12 :: [])) (Cls u m0 (M12 :: [])) (by kernel_rfl) ?_
  intro w hw
  replace ok:=qck ok hw
  clear hw
  refine qan (cl1 (cq le_m0 ok [0,3] rfl) (cq le_m0 ok [3] rfl)) fun hT=>kt 0 E rfl hT (qal rfl) fun a E=>kt 1 E rfl hT (qaE rfl) fun a E=>kt 2 E rfl hT (qad qhK rfl) fun a E=>qca 3 E rfl (by kernel_rfl) nP hT (qak qfj rfl (qac.cown 0 rfl rfl)) rfl rfl fun a E=>kt 4 E rfl hT (qal rfl) fun a E=>kt 5 E rfl hT (qal rfl) fun a E=>kt 6 E rfl hT (qaE rfl) fun a E=>kt 7 E rfl hT (qad qk6 rfl) fun a E=>qca 8 E rfl (by kernel_rfl) nP hT (qak qlU rfl (qac.cown 0 rfl rfl)) rfl rfl fun a E=>kt 9 E rfl hT (qal rfl) fun a E=>kt 10 E rfl hT (qal rfl) fun a E=>?_
  obtain ⟨b190,o191,hp192,yy193⟩:=qdd qdm h10 e171 (P:=Tryz.prog) (X:=.tmp 41) (I:=.tmp 42) (kd:=.i64) (qaS E rfl) (qaS E rfl)
  refine kt 11 E rfl hT (yy193 _ _) fun a E=>qaC [12] (by kernel_rfl) rfl (qaH ?_)
  ·refine wo rfl<|qfH (R:=pB) E ok 2 rfl h10 e171 hp192 rfl rfl qkw rfl rfl rfl ⟨rfl,trivial⟩ qcO e177 rfl fun M194 w ok h195=>wn<|qan (cl2 (by kernel_rfl) (cq le_m0 ok [3] rfl)) fun hT=>?_
   obtain ⟨b196,o197,hp198,yy199⟩:=qdd qhq h7 e181 (P:=Tryz.prog) (X:=.tmp 46) (I:=.tmp 47) (kd:=.i64) (qaS E rfl) (qaS E rfl)
   refine kt 13 E rfl hT (yy199 _ _) fun a E=>qaC [14] (by kernel_rfl) rfl (qaH ?_)
   ·refine wo rfl<|qfH (R:=(pK 1 pS)) E ok 1 rfl h7 e181 hp198 rfl rfl qqA (qlJ hopen_2) rfl rfl ⟨(qqE hopen_2),trivial⟩ hopen_2 e187 rfl fun M200 w ok h201=>wn<|qan (cl2 (by kernel_rfl) (cq le_m0 ok [3] rfl)) fun hT=>qbq (by kernel_rfl) ?_
    exact ⟨rfl,⟨c1,c3,c5,M200,c8,M194,c11,M12,ok,E.keep [],h2,h4,h201,h195,h13⟩⟩
 refine wp_seq<|bd hF fun o38 hJ hF=>qaK (Q':=fun e a w=>e = .normal ∧ ∃ c39 c41 c43 M44 c46 M47 c49 M50,Ok u m0 ([(pb0,oc 54 [c39,c41,c43,c46,c49])] :: M44 :: M47 :: M50 :: S) w ∧ Env 51 a [] ∧ (pL 1 pS) m0 [c39] o38.c.Names ∧ (pL 4 pIns) m0 [c41] o38.c.Ins ∧ ORow 86 1 (pK 1 pS) m0 c43 o38.open_ M44 ∧ ORow 4 1 pB m0 c46 o38.reached M47 ∧ ORow 4 1 pB m0 c49 o38.clash M50) ?_ ?_
 rotate_left
 ·intro e a w hO
  obtain ⟨rfl,c143,c145,c147,M148,c150,M151,c153,M154,ok,E,h144,h146,h149,h152,h155⟩:=hO
  refine qaa<|wp_ret<|qaf ?_
  exact fin hF ⟨m0,c143,c145,c147,M148,c150,M151,c153,M154,le_m0,ok,E.d,trivial,h144,h146,h149,h152,h155⟩
 have hF:=hJ
 refine bd hF fun x52 e53 hF=>qaW x52 (fun c62=>?_) (fun c62=>?_)
 ·have hF:=qaU c62 hF
  obtain ⟨x63,e64,hF⟩:=bnd hF
  obtain ⟨l69,e70,hF⟩:=bnd hF
  obtain rfl:=sj hF
  refine qbT [3,8,11,16,19] (Cls u m0 ([(pb0,oc 54 [c1,c3,c5,c8,c11])] :: M6 :: M9 :: [])) (Cls u m0 (M6 :: M9 :: [])) (by kernel_rfl) ?_
  intro w hw
  replace ok:=qck ok hw
  clear hw
  refine qan (cl1 (cq le_m0 ok [0,1,2] rfl) (cq le_m0 ok [1,2] rfl)) fun hT=>kt 0 E rfl hT (qal rfl) fun a E=>kt 1 E rfl hT (qaE rfl) fun a E=>kt 2 E rfl hT (qad qhJ rfl) fun a E=>qca 3 E rfl (by kernel_rfl) nP hT (qak qfj rfl (qac.cown 0 rfl rfl)) rfl rfl fun a E=>kt 4 E rfl hT (qal rfl) fun a E=>kt 5 E rfl hT (qal rfl) fun a E=>kt 6 E rfl hT (qaE rfl) fun a E=>kt 7 E rfl hT (qad qhJ rfl) fun a E=>qca 8 E rfl (by kernel_rfl) nP hT (qak qfj rfl (qac.cown 0 rfl rfl)) rfl rfl fun a E=>kt 9 E rfl hT (qal rfl) fun a E=>?_
  obtain ⟨b73,o74,hp75,yy76⟩:=qdd qdm h13 e53 (P:=Tryz.prog) (X:=.tmp 21) (I:=.tmp 22) (kd:=.i64) (qaS E rfl) (qaS E rfl)
  refine kt 10 E rfl hT (yy76 _ _) fun a E=>qaC [11] (by kernel_rfl) rfl (qaH ?_)
  ·refine qeG (o:=_) rfl ?_
   obtain ⟨es81,hl82,rr83,hh84⟩:=qeT h13 e53 hp75 (by decide)
   obtain rfl:=rr83
   refine lv E ok (qak qen rfl (hh84 _ _ _ 3 rfl)) fun a E=>wn<|qan (cl1 (cq le_m0 ok [0,1,2] rfl) (cq le_m0 ok [1,2] rfl)) fun hT=>kt 12 E rfl hT (qal rfl) fun a E=>?_
   have E:=E.upd 25 c62 rfl
   refine qcM 13 false E rfl (by kernel_rfl) nP hT rfl rfl fun a E=>qcM 14 false E rfl (by kernel_rfl) nP hT rfl rfl fun a E=>qcM 15 false E rfl (by kernel_rfl) nP hT rfl rfl fun a E=>qcM 16 true E rfl (by kernel_rfl) nP hT rfl rfl fun a E=>qcM 17 false E rfl (by kernel_rfl) nP hT rfl rfl fun a E=>qcM 18 false E rfl (by kernel_rfl) nP hT rfl rfl fun a E=>qcM 19 true E rfl (by kernel_rfl) nP hT rfl rfl fun a E=>qcM 20 false E rfl (by kernel_rfl) nP hT rfl rfl fun a E=>qcM 21 false E rfl (by kernel_rfl) nP hT rfl rfl fun a E=>qcM 22 false E rfl (by kernel_rfl) nP hT rfl rfl fun a E=>kt 23 E rfl hT (qco rfl rfl) fun a E=>?_
   obtain ⟨b85,o86,hp87,yy88⟩:=qdd qdm h13 e64 (P:=Tryz.prog) (X:=.tmp 16) (I:=.tmp 17) (kd:=.i64) (qaS E rfl) (qaS E rfl)
   refine kt 24 E rfl hT (yy88 _ _) fun a E=>qaC [25] (by kernel_rfl) rfl (qaH ?_)
   ·refine wo rfl<|qfH (R:=pB) E ok 3 rfl h13 e64 hp87 rfl rfl qkw rfl rfl rfl ⟨rfl,trivial⟩ qcO e70 rfl fun M89 w ok h90=>wn<|qan (cl2 (by kernel_rfl) (cq le_m0 ok [1,2] rfl)) fun hT=>qbq (by kernel_rfl) ?_
    exact ⟨rfl,⟨c1,c3,c5,M6,c8,M9,c11,M89,ok,E.keep [],h2,h4,h7,h10,h90⟩⟩
 have hF:=qaV c62 hF
 obtain ⟨x91,e92,hF⟩:=bnd hF
 obtain ⟨r103,e104,hF⟩:=bnd hF
 obtain ⟨x105,e106,hF⟩:=bnd hF
 obtain ⟨l111,e112,hF⟩:=bnd hF
 obtain rfl:=sj hF
 refine qbT [3,8,11,16,19] (Cls u m0 ([(pb0,oc 54 [c1,c3,c5,c8,c11])] :: M6 :: M9 :: [])) (Cls u m0 (M6 :: M9 :: [])) (by kernel_rfl) ?_
 intro w hw
 replace ok:=qck ok hw
 clear hw
 refine qan (cl1 (cq le_m0 ok [0,1,2] rfl) (cq le_m0 ok [1,2] rfl)) fun hT=>kt 0 E rfl hT (qal rfl) fun a E=>kt 1 E rfl hT (qaE rfl) fun a E=>kt 2 E rfl hT (qad qhJ rfl) fun a E=>qca 3 E rfl (by kernel_rfl) nP hT (qak qfj rfl (qac.cown 0 rfl rfl)) rfl rfl fun a E=>kt 4 E rfl hT (qal rfl) fun a E=>kt 5 E rfl hT (qal rfl) fun a E=>kt 6 E rfl hT (qaE rfl) fun a E=>kt 7 E rfl hT (qad qhJ rfl) fun a E=>qca 8 E rfl (by kernel_rfl) nP hT (qak qfj rfl (qac.cown 0 rfl rfl)) rfl rfl fun a E=>kt 9 E rfl hT (qal rfl) fun a E=>?_
 obtain ⟨b115,o116,hp117,yy118⟩:=qdd qdm h13 e53 (P:=Tryz.prog) (X:=.tmp 21) (I:=.tmp 22) (kd:=.i64) (qaS E rfl) (qaS E rfl)
 refine kt 10 E rfl hT (yy118 _ _) fun a E=>qaC [11] (by kernel_rfl) rfl (qaH ?_)
 ·refine qeG (o:=_) rfl ?_
  obtain ⟨es123,hl124,rr125,hh126⟩:=qeT h13 e53 hp117 (by decide)
  obtain rfl:=rr125
  refine lv E ok (qak qen rfl (hh126 _ _ _ 3 rfl)) fun a E=>wn<|qan (cl1 (cq le_m0 ok [0,1,2] rfl) (cq le_m0 ok [1,2] rfl)) fun hT=>kt 12 E rfl hT (qal rfl) fun a E=>?_
  have E:=E.upd 25 c62 rfl
  refine kt 13 E rfl hT (qal rfl) fun a E=>kt 14 E rfl hT (qaE rfl) fun a E=>kt 15 E rfl hT (qad qk6 rfl) fun a E=>qca 16 E rfl (by kernel_rfl) nP hT (qak qlU rfl (qac.cown 0 rfl rfl)) rfl rfl fun a E=>kt 17 E rfl hT (qal rfl) fun a E=>?_
  obtain ⟨b127,o128,hp129,yy130⟩:=qdd qhq h7 e92 (P:=Tryz.prog) (X:=.tmp 29) (I:=.tmp 30) (kd:=.i64) (qaS E rfl) (qaS E rfl)
  refine kt 18 E rfl hT (yy130 _ _) fun a E=>?_
  obtain ⟨es131,hl132,rr133,hh134⟩:=qeT h7 e92 hp129 (by decide)
  obtain ⟨c135,rfl,h136⟩:=qmP rr133
  refine qca 19 E rfl (by kernel_rfl) nP hT (qak qi7 rfl (qac.crow hh134 1 rfl)) rfl rfl fun a E=>kt 20 E rfl hT (qal rfl) fun a E=>qaC [21] (by kernel_rfl) rfl (qaH ?_)
  ·refine wo rfl<|lc E qrm rfl (qlp N _ x91 h136 _ open_2 hopen_2 e104 hG ok) fun w ok a E=>wn<|qan (cl1 (cq le_m0 ok [0,1,2] rfl) (cq le_m0 ok [1,2] rfl)) fun hT=>kt 22 E rfl hT (qaz rfl) fun a E=>kt 23 E rfl hT (qcq rfl rfl) fun a E=>?_
   obtain ⟨b137,o138,hp139,yy140⟩:=qdd qdm h13 e106 (P:=Tryz.prog) (X:=.tmp 16) (I:=.tmp 17) (kd:=.i64) (qaS E rfl) (qaS E rfl)
   refine kt 24 E rfl hT (yy140 _ _) fun a E=>qaC [25] (by kernel_rfl) rfl (qaH ?_)
   ·refine wo rfl<|qfH (R:=pB) E ok 3 rfl h13 e106 hp139 rfl rfl qkw rfl rfl rfl ⟨rfl,trivial⟩ qcO e112 rfl fun M141 w ok h142=>wn<|qan (cl2 (by kernel_rfl) (cq le_m0 ok [1,2] rfl)) fun hT=>qbq (by kernel_rfl) ?_
    exact ⟨rfl,⟨c1,c3,c5,M6,c8,M9,c11,M141,ok,E.keep [],h2,h4,h7,h10,h142⟩⟩
end Go.Proofs.YtmghnmfefpeelaaGreatDoor
namespace Go.Proofs.YtmghnmfefpeelaaGreatDoor
open Go.X
variable {u:World} {m0:Mem} {S:Segs} {w:World}
set_option maxHeartbeats 4000000
set_option maxRecDepth 100000
def qjm (u:World) (m0:Mem) (S:Segs) (pb0:Nat) (x0:Flow) (c1:Value) (c3:Value) (c5:Value) (M6:List (Nat × Obj)) (c8:Value) (M9:List (Nat × Obj)) (c11:Value) (M12:List (Nat × Obj)) (r:Bool × Flow) (a:Act) (w:World):Prop :=
 ∃ m1 c14 c16 c18 M19 c21 M22 c24 M25,m0.le m1 ∧ Ok u m1 ([(pb0,oc 54 [c14,c16,c18,c21,c24])] :: M19 :: M22 :: M25 :: S) w ∧ a.defers = [] ∧ RVs Tryz.prog a w [.t 4 (.bool r.1)] ∧ (pL 1 pS) m1 [c14] r.2.c.Names ∧ (pL 4 pIns) m1 [c16] r.2.c.Ins ∧ ORow 86 1 (pK 1 pS) m1 c18 r.2.open_ M19 ∧ ORow 4 1 pB m1 c21 r.2.reached M22 ∧ ORow 4 1 pB m1 c24 r.2.clash M25
theorem qjb (N:Nat) (i_1:Int) (ri_1:InR .i64 i_1) {pb0:Nat} {c1:Value} {c3:Value} {c5:Value} {M6:List (Nat × Obj)} {c8:Value} {M9:List (Nat × Obj)} {c11:Value} {M12:List (Nat × Obj)} (x0:Flow) (h2:(pL 1 pS) m0 [c1] x0.c.Names) (h4:(pL 4 pIns) m0 [c3] x0.c.Ins) (h7:ORow 86 1 (pK 1 pS) m0 c5 x0.open_ M6) (h10:ORow 4 1 pB m0 c8 x0.reached M9) (h13:ORow 4 1 pB m0 c11 x0.clash M12) {r:Bool × Flow} (hF:qd4 N i_1 x0 = some r) (hG:Glob u) (ok:Ok u m0 ([(pb0,oc 54 [c1,c3,c5,c8,c11])] :: M6 :: M9 :: M12 :: S) w) :
  Calls Tryz.prog 39 [vp pb0,vi i_1].toArray w fun e w'=>∃ m1 c14 c16 c18 M19 c21 M22 c24 M25,e = .returned (.bool r.1) ∧ m0.le m1 ∧ Ok u m1 ([(pb0,oc 54 [c14,c16,c18,c21,c24])] :: M19 :: M22 :: M25 :: S) w' ∧ (pL 1 pS) m1 [c14] r.2.c.Names ∧ (pL 4 pIns) m1 [c16] r.2.c.Ins ∧ ORow 86 1 (pK 1 pS) m1 c18 r.2.open_ M19 ∧ ORow 4 1 pB m1 c21 r.2.reached M22 ∧ ORow 4 1 pB m1 c24 r.2.clash M25:=by
 have le_m0:=Mem.le.refl m0
 unfold qd4 at hF
 refine en (qjm u m0 S pb0 x0 c1 c3 c5 M6 c8 M9 c11 M12) r Tryz.func39 rfl rfl rfl (by rintro a w ⟨m1,c14,c16,c18,M19,c21,M22,c24,M25,hle,ok,hd,hrv,h0,h1,h2,h3,h4⟩; exact qcw [.t 4 (.bool r.1)] hd rfl hrv ⟨m1,c14,c16,c18,M19,c21,M22,c24,M25,rfl,hle,ok,h0,h1,h2,h3,h4⟩) fun fin a E=>sg<|aw E rfl fun a E=>wp_seq<|sg<|mv E rfl fun a E=>lw E (qaE rfl) fun a E=>fk E ok qhJ qfj rfl 0 rfl rfl fun a E=>mv E rfl fun a E=>?_
 obtain ⟨x27,e28,hF⟩:=bnd hF
 obtain ⟨b29,o30,hp31,yy32⟩:=qdd qdm h13 e28 (P:=Tryz.prog) (X:=.tmp 12) (I:=.tmp 13) (kd:=.i64) (qaS E rfl) (qaS E rfl)
 refine lv E ok (yy32 _ _) fun a E=>?_
 obtain ⟨es33,hl34,rr35,hh36⟩:=qeT h13 e28 hp31 (by decide)
 obtain rfl:=rr35
 refine lv E ok (qak qen rfl (hh36 _ _ _ 3 rfl)) fun a E=>wn<|cf E rfl hF (fun c37 hF=>?_) fun c37 hF=>?_
 ·refine sg<|aw E rfl fun a E=>wp_ret<|qaf ?_
  exact fin hF ⟨m0,c1,c3,c5,M6,c8,M9,c11,M12,le_m0,ok,E.d,rz E rfl,h2,h4,h7,h10,h13⟩
 refine wp_skip<|qaa<|sg<|mv E rfl fun a E=>lw E (qaE rfl) fun a E=>fk E ok qk6 qlU rfl 0 rfl rfl fun a E=>mv E rfl fun a E=>?_
 obtain ⟨x38,e39,hF⟩:=bnd hF
 obtain ⟨b40,o41,hp42,yy43⟩:=qdd qhq h7 e39 (P:=Tryz.prog) (X:=.tmp 19) (I:=.tmp 20) (kd:=.i64) (qaS E rfl) (qaS E rfl)
 refine lv E ok (yy43 _ _) fun a E=>?_
 obtain ⟨es44,hl45,rr46,hh47⟩:=qeT h7 e39 hp42 (by decide)
 obtain ⟨c48,rfl,h49⟩:=qmP rr46
 refine lv E ok (qak qi7 rfl (hh47 _ _ _ 1 rfl)) fun a E=>aw E rfl fun a E=>wp_seq<|sg<|mv E rfl fun a E=>lw E (qaE rfl) fun a E=>fv E qm1 rfl fun a E=>fk E ok qbF qbO rfl 0 rfl rfl fun a E=>mv E rfl fun a E=>?_
 obtain ⟨x50,e51,hF⟩:=bnd hF
 obtain ⟨b52,o53,es54,hl55,rr56,at57,yy58⟩:=ia E 27 28 qbp h4 e51
 obtain ⟨rfl,r59,r60,r61,l62⟩:=rr56
 refine lv E ok (yy58 _ _) fun a E=>lv E ok (qaj (cs:=[vi x50.Op,vi x50.A,vi x50.B,vs x50.S]) qiW rfl rfl (qac.ro at57)) fun a E=>qbh E ok qbl rfl rfl fun b63 a w E ok=>qai E ok 0 rfl rfl rfl qkD rfl rfl ⟨rfl,rfl,rfl,rfl,trivial⟩ rfl rfl fun w ok=>wn<|sg<|fk E ok qeB qat rfl 0 rfl rfl fun a E=>wn<|wp_block<|sg<|lw E (qao rfl rfl) fun a E=>aw E rfl fun a E=>cf E rfl hF (fun c64 hF=>?_) fun c64 hF=>?_
 ·refine sg<|mv E rfl fun a E=>lv E ok (qnW Tryz.underlying86 h49 rfl rfl) fun a E=>aw E rfl fun a E=>wp_ret<|qam<|qaf ?_
  exact fin hF ⟨m0,c1,c3,c5,M6,c8,M9,c11,M12,le_m0,ok.drop,E.d,rz E rfl,h2,h4,h7,h10,h13⟩
 refine sg<|lw E (qao rfl rfl) fun a E=>aw E rfl fun a E=>cf E rfl hF (fun c65 hF=>?_) fun c65 hF=>?_
 ·refine qab<|mv E rfl fun a E=>fk E ok qef qat rfl 0 rfl rfl fun a E=>mv E rfl fun a E=>?_
  obtain ⟨r66,e67,hF⟩:=bnd hF
  replace ok:Ok u m0 ([(pb0,oc 54 [c1,c3,c5,c8,c11])] :: M6 :: M9 :: M12 :: [(b63,oc 38 [vi x50.Op,vi x50.A,vi x50.B,vs x50.S])] :: S) w:=(ok.pk 5 [1,2,3,4,0] rfl (by decide))
  refine qas E qkd rfl (qdE N x50.A r60 _ x38 h49 x0 h2 h4 h7 h10 h13 e67 hG ok) rfl rfl ?_
  rintro _ w ⟨m68,c69,c71,c73,M74,c76,M77,c79,M80,rfl,hle,ok,h70,h72,h75,h78,h81⟩
  have le_m0:=le_m0.trans hle
  have h2:=(mL mS).up hle h2
  have h4:=(mL mIns).up hle h4
  have h49:=(mK mS).up hle h49
  have at57:=At.up hle at57
  refine ⟨_,rfl,fun a E=>?_⟩
  refine wpList_nil<|qag<|qaa<|sg<|aw E rfl fun a E=>wp_ret ?_
  exact fin hF ⟨m68,c69,c71,c73,M74,c76,M77,c79,M80,le_m0,(ok.pk 5 [0,1,2,3] rfl (by decide)),E.d,rz E rfl,h70,h72,h75,h78,h81⟩
 refine sg<|lw E (qao rfl rfl) fun a E=>aw E rfl fun a E=>cf E rfl hF (fun c82 hF=>?_) fun c82 hF=>?_
 ·as_aux_lemma =>
   refine sg<|mv E rfl fun a E=>lw E (qaE rfl) fun a E=>fv E qm1 rfl fun a E=>lv E ok (qaj (cs:=[c1,c3]) qd5 rfl rfl (qac.own 1 rfl rfl)) fun a E=>mv E rfl fun a E=>bd hF fun r83 e84 hF=>qas E qpk rfl (qhF N _ x0.c ⟨_,_,rfl,h2,h4⟩ i_1 ri_1 e84 hG ok) rfl rfl ?_
   rintro _ w ⟨m85,c86,rfl,hle,ok,h87⟩
   have le_m0:=le_m0.trans hle
   have h2:=(mL mS).up hle h2
   have h4:=(mL mIns).up hle h4
   have h7:=ORow.up (mK mS) hle h7
   have h10:=ORow.up mB hle h10
   have h13:=ORow.up mB hle h13
   have h49:=(mK mS).up hle h49
   have at57:=At.up hle at57
   refine ⟨_,rfl,fun a E=>?_⟩
   refine lv E ok (qax qbp h87 rfl) fun a E=>mv E rfl fun a E=>wn<|wp_block<|bd hF fun o103 hL hF=>qaX _ (fun (s:Int × Flow) a w=>∃ m104 c106 c108 c110 M111 c113 M114 c116 M117,m85.le m104 ∧ Ok u m104 ([(b63,oc 38 [vi x50.Op,vi x50.A,vi x50.B,vs x50.S])] :: [(pb0,oc 54 [c106,c108,c110,c113,c116])] :: M111 :: M114 :: M117 :: S) w ∧ Env 100 a [(0,vp pb0),(5,c48),(56,c86),(57,(vi (r83.length:Int))),(58,vi s.1)] ∧ InR .i64 s.1 ∧ (pL 1 pS) m104 [c106] s.2.c.Names ∧ (pL 4 pIns) m104 [c108] s.2.c.Ins ∧ ORow 86 1 (pK 1 pS) m104 c110 s.2.open_ M111 ∧ ORow 4 1 pB m104 c113 s.2.reached M114 ∧ ORow 4 1 pB m104 c116 s.2.clash M117) (fun (b:Flow) e a w=>e = (.exit 1) ∧ ∃ m181 c182 c184 c186 M187 c189 M190 c192 M193,m85.le m181 ∧ Ok u m181 ([(b63,oc 38 [vi x50.Op,vi x50.A,vi x50.B,vs x50.S])] :: [(pb0,oc 54 [c182,c184,c186,c189,c192])] :: M187 :: M190 :: M193 :: S) w ∧ Env 100 a [] ∧ (pL 1 pS) m181 [c182] b.c.Names ∧ (pL 4 pIns) m181 [c184] b.c.Ins ∧ ORow 86 1 (pK 1 pS) m181 c186 b.open_ M187 ∧ ORow 4 1 pB m181 c189 b.reached M190 ∧ ORow 4 1 pB m181 c192 b.clash M193) ?_ ?_ N _ a w hL ⟨m85,c1,c3,c5,M6,c8,M9,c11,M12,Mem.le.refl _,ok,E.keep [0,5,56,57,58],(ir 0),h2,h4,h7,h10,h13⟩
   rotate_left
   ·intro e a w _ hO
    obtain ⟨rfl,m167,c168,c170,c172,M173,c175,M176,c178,M179,hle,ok,E,h169,h171,h174,h177,h180⟩:=hO
    have le_m0:=le_m0.trans hle
    have h2:=(mL mS).up hle h2
    have h4:=(mL mIns).up hle h4
    have h49:=(mK mS).up hle h49
    have at57:=At.up hle at57
    have h87:=(mL mIns).up hle h87
    refine qba<|qag<|qaa<|sg<|aw E rfl fun a E=>wp_ret ?_
    exact fin hF ⟨m167,c168,c170,c172,M173,c175,M176,c178,M179,le_m0,ok.drop,E.d,rz E rfl,h169,h171,h174,h177,h180⟩
   rintro ⟨v119,v120⟩ a w r ⟨m121,c123,c125,c127,M128,c130,M131,c133,M134,hle,ok,E,r122,h124,h126,h129,h132,h135⟩ hF
   replace hF:qbV N x38 r83 v119 v120 = some r:=hF
   unfold qbV at hF
   have le_m85:=Mem.le.refl m85
   have le_m0:=le_m0.trans hle
   have le_m85:=le_m85.trans hle
   have h2:=(mL mS).up hle h2
   have h4:=(mL mIns).up hle h4
   have h49:=(mK mS).up hle h49
   have at57:=At.up hle at57
   have h87:=(mL mIns).up hle h87
   refine sg<|lw E (qaJ rfl rfl) fun a E=>wn<|wp_seq<|cg E rfl hF (fun c136 hF=>?_) fun c136 hF=>?_
   ·refine wp_exit<|qaO ?_
    cases hF
    exact so (⟨rfl,⟨m121,c123,c125,c127,M128,c130,M131,c133,M134,le_m85,ok,E.keep [],h124,h126,h129,h132,h135⟩⟩)
   refine wp_skip<|qaa<|wp_seq<|wp_block<|sg ?_
   obtain ⟨x137,e138,hF⟩:=bnd hF
   obtain ⟨b139,o140,es141,hl142,rr143,at144,yy145⟩:=ia E 56 58 qbp h87 e138
   obtain ⟨rfl,r146,r147,r148,l149⟩:=rr143
   refine lv E ok (yy145 _ _) fun a E=>lv E ok (qaj (cs:=[vi x137.Op,vi x137.A,vi x137.B,vs x137.S]) qiW rfl rfl (qac.ro at144)) fun a E=>qbh E ok qbl rfl rfl fun b150 a w E ok=>qai E ok 0 rfl rfl rfl qkD rfl rfl ⟨rfl,rfl,rfl,rfl,trivial⟩ rfl rfl fun w ok=>wn<|qab<|mv E rfl fun a E=>fk E ok qef qat rfl 0 rfl rfl fun a E=>mv E rfl fun a E=>?_
   obtain ⟨r151,e152,hF⟩:=bnd hF
   replace ok:Ok u m121 ([(pb0,oc 54 [c123,c125,c127,c130,c133])] :: M128 :: M131 :: M134 :: [(b150,oc 38 [vi x137.Op,vi x137.A,vi x137.B,vs x137.S])] :: [(b63,oc 38 [vi x50.Op,vi x50.A,vi x50.B,vs x50.S])] :: S) w:=(ok.pk 6 [2,3,4,5,0,1] rfl (by decide))
   refine qas E qkd rfl (qdE N x137.A r147 _ x38 h49 v120 h124 h126 h129 h132 h135 e152 hG ok) rfl rfl ?_
   rintro _ w ⟨m153,c154,c156,c158,M159,c161,M162,c164,M165,rfl,hle,ok,h155,h157,h160,h163,h166⟩
   have le_m0:=le_m0.trans hle
   have le_m85:=le_m85.trans hle
   have h2:=(mL mS).up hle h2
   have h4:=(mL mIns).up hle h4
   have h49:=(mK mS).up hle h49
   have at57:=At.up hle at57
   have h87:=(mL mIns).up hle h87
   have h124:=(mL mS).up hle h124
   have h126:=(mL mIns).up hle h126
   have at144:=At.up hle at144
   refine ⟨_,rfl,fun a E=>?_⟩
   refine wpList_nil<|qag<|qaa<|qab<|lw E (qau rfl rfl (InR.inc r122 (qae h87) c136)) fun a E=>mv E rfl fun a E=>wpList_nil ?_
   cases hF
   exact qap ⟨m153,c154,c156,c158,M159,c161,M162,c164,M165,le_m85,(ok.pk 6 [5,0,1,2,3] rfl (by decide)),E.keep [0,5,56,57,58],(InR.inc r122 (qae h87) c136),h155,h157,h160,h163,h166⟩
 refine sg<|lw E (qao rfl rfl) fun a E=>aw E rfl fun a E=>cf E rfl hF (fun c195 hF=>?_) fun c195 hF=>?_
 ·refine qab<|mz E rfl rfl fun a E=>lw E (qbb rfl rfl) fun a E=>fk E ok qdy qah rfl 0 rfl rfl fun a E=>mv E rfl fun a E=>lw E (qav (ps:=[(0,.tmp 74),(1,.tmp 75)]) (qs:=[(0,[vs x50.S]),(1,[c48])]) (cs:=[vs x50.S,c48]) qpU qox rfl ⟨rfl,rfl,rfl,⟨rfl,(qlJ h49),rfl,trivial⟩⟩ rfl) fun a E=>qdf E ok rfl rfl rfl fun b196 a w E ok=>?_
  have hlk:=(show pS m0 [vs x50.S] x50.S from (qc9 l62))
  have hln:=(show (pK 1 pS) m0 [c48] x38 from h49)
  obtain ⟨m197,hle,ok,hfz⟩:=(ok.frs 0 rfl).freeze
  have h198:=qpI mS hlk hln rfl hle hfz rfl
  clear hlk hln
  have le_m0:=le_m0.trans hle
  have h2:=(mL mS).up hle h2
  have h4:=(mL mIns).up hle h4
  have h7:=ORow.up (mK mS) hle h7
  have h10:=ORow.up mB hle h10
  have h13:=ORow.up mB hle h13
  have h49:=(mK mS).up hle h49
  have at57:=At.up hle at57
  obtain ⟨r199,e200,hF⟩:=bnd hF
  replace ok:Ok u m197 ([(pb0,oc 54 [c1,c3,c5,c8,c11])] :: M6 :: M9 :: M12 :: [(b63,oc 38 [vi x50.Op,vi x50.A,vi x50.B,vs x50.S])] :: S) w:=(ok.pk 5 [1,2,3,4,0] rfl (by decide))
  refine qas E qkd rfl (qdE N (IntKind.wrap .i64 (i_1 + 1)) (InR.wrap _ _) _ (x50.S :: x38) h198 x0 h2 h4 h7 h10 h13 e200 hG ok) rfl rfl ?_
  rintro _ w ⟨m201,c202,c204,c206,M207,c209,M210,c212,M213,rfl,hle,ok,h203,h205,h208,h211,h214⟩
  have le_m0:=le_m0.trans hle
  have h2:=(mL mS).up hle h2
  have h4:=(mL mIns).up hle h4
  have h49:=(mK mS).up hle h49
  have at57:=At.up hle at57
  have h198:=(mK mS).up hle h198
  refine ⟨_,rfl,fun a E=>?_⟩
  refine wpList_nil<|qag<|qaa<|sg<|aw E rfl fun a E=>wp_ret ?_
  exact fin hF ⟨m201,c202,c204,c206,M207,c209,M210,c212,M213,le_m0,(ok.pk 5 [0,1,2,3] rfl (by decide)),E.d,rz E rfl,h203,h205,h208,h211,h214⟩
 refine sg<|lw E (qao rfl rfl) fun a E=>aw E rfl fun a E=>cg E rfl hF (fun c215 hF=>?_) fun c215 hF=>?_
 ·refine qab<|mz E rfl rfl fun a E=>lw E (qbb rfl rfl) fun a E=>mv E rfl fun a E=>?_
  obtain ⟨r256,e257,hF⟩:=bnd hF
  replace ok:Ok u m0 ([(pb0,oc 54 [c1,c3,c5,c8,c11])] :: M6 :: M9 :: M12 :: [(b63,oc 38 [vi x50.Op,vi x50.A,vi x50.B,vs x50.S])] :: S) w:=(ok.pk 5 [1,2,3,4,0] rfl (by decide))
  refine qas E qkd rfl (qdE N (IntKind.wrap .i64 (i_1 + 1)) (InR.wrap _ _) _ x38 h49 x0 h2 h4 h7 h10 h13 e257 hG ok) rfl rfl ?_
  rintro _ w ⟨m258,c259,c261,c263,M264,c266,M267,c269,M270,rfl,hle,ok,h260,h262,h265,h268,h271⟩
  have le_m0:=le_m0.trans hle
  have h2:=(mL mS).up hle h2
  have h4:=(mL mIns).up hle h4
  have h49:=(mK mS).up hle h49
  have at57:=At.up hle at57
  refine ⟨_,rfl,fun a E=>?_⟩
  refine wpList_nil<|qag<|qaa<|sg<|aw E rfl fun a E=>wp_ret ?_
  exact fin hF ⟨m258,c259,c261,c263,M264,c266,M267,c269,M270,le_m0,(ok.pk 5 [0,1,2,3] rfl (by decide)),E.d,rz E rfl,h260,h262,h265,h268,h271⟩
 refine wp_seq<|wp_seq<|qdB (by kernel_rfl) (by kernel_rfl) ok<|qv E (qal rfl) fun a E=>qv E (qnW Tryz.underlying86 h49 rfl rfl) fun a E=>qv E (qal rfl) fun a E=>bu E 83 hF (fun c216 hF E=>?_) fun c216 hF E=>?_
 ·refine qs E fun a E=>qs E fun a E=>qs E fun a E=>qs E fun a E=>qs E fun a E=>qs E fun a E=>qs E fun a E=>qv E (qco rfl rfl) fun a E=>wpQuiet_nil ?_
  intro w ok
  refine qaa<|c_if E rfl (fun _=>?_) (fun h=>by cases h)
  refine sg<|aw E rfl fun a E=>wp_ret<|qaf<|qam<|qaf ?_
  exact fin hF ⟨m0,c1,c3,c5,M6,c8,M9,c11,M12,le_m0,ok.drop,E.d,rz E rfl,h2,h4,h7,h10,h13⟩
 refine qv E (qal rfl) fun a E=>?_
 obtain ⟨q217,e218,hF⟩:=bnd hF
 obtain ⟨b219,o220,es221,c222,hv223,hR224,h225,at226⟩:=qks h49 e218
 obtain ⟨rfl,l227⟩:=hR224
 refine qv E (qev hv223 rfl) fun a E=>qv E (qad qkS rfl) fun a E=>qv E (qak qah rfl (qac.ro (At.sub 0 1 at226))) fun a E=>qv E (qad qdy rfl) fun a E=>qv E (qak qah rfl (qac.own 0 rfl rfl)) fun a E=>qv E (qbB rfl rfl) fun a E=>qv E (qcq rfl rfl) fun a E=>wpQuiet_nil ?_
 intro w ok
 refine qaa<|cf E rfl hF (fun c228 hF=>?_) fun c228 hF=>?_
 ·refine sg<|aw E rfl fun a E=>wp_ret<|qaf<|qam<|qaf ?_
  exact fin hF ⟨m0,c1,c3,c5,M6,c8,M9,c11,M12,le_m0,ok.drop,E.d,rz E rfl,h2,h4,h7,h10,h13⟩
 refine wp_skip<|qaa<|qab<|mz E rfl rfl fun a E=>lw E (qbb rfl rfl) fun a E=>mv E rfl fun a E=>?_
 obtain ⟨q229,e230,hF⟩:=bnd hF
 obtain ⟨b231,o232,es233,c234,hv235,hR236,h237,at238⟩:=qks h49 e230
 obtain ⟨rfl,l239⟩:=hR236
 refine lv E ok (qev hv235 rfl) fun a E=>fv E qkG rfl fun a E=>lv E ok (qak qi7 rfl (qac.ro (At.sub 1 1 at238))) fun a E=>?_
 obtain ⟨r240,e241,hF⟩:=bnd hF
 replace ok:Ok u m0 ([(pb0,oc 54 [c1,c3,c5,c8,c11])] :: M6 :: M9 :: M12 :: [(b63,oc 38 [vi x50.Op,vi x50.A,vi x50.B,vs x50.S])] :: S) w:=(ok.pk 5 [1,2,3,4,0] rfl (by decide))
 refine qas E qkd rfl (qdE N (IntKind.wrap .i64 (i_1 + 1)) (InR.wrap _ _) _ q229.2 h237 x0 h2 h4 h7 h10 h13 e241 hG ok) rfl rfl ?_
 rintro _ w ⟨m242,c243,c245,c247,M248,c250,M251,c253,M254,rfl,hle,ok,h244,h246,h249,h252,h255⟩
 have le_m0:=le_m0.trans hle
 have h2:=(mL mS).up hle h2
 have h4:=(mL mIns).up hle h4
 have h49:=(mK mS).up hle h49
 have at57:=At.up hle at57
 have h225:=(mK mS).up hle h225
 have at226:=At.up hle at226
 have h237:=(mK mS).up hle h237
 have at238:=At.up hle at238
 refine ⟨_,rfl,fun a E=>?_⟩
 refine wpList_nil<|qag<|qaa<|sg<|aw E rfl fun a E=>wp_ret ?_
 exact fin hF ⟨m242,c243,c245,c247,M248,c250,M251,c253,M254,le_m0,(ok.pk 5 [0,1,2,3] rfl (by decide)),E.d,rz E rfl,h244,h246,h249,h252,h255⟩
def qfV (u:World) (m0:Mem) (S:Segs) (r:(Option (Flow)) × Int × Int) (a:Act) (w:World):Prop :=
 ∃ m1 v0,m0.le m1 ∧ Ok u m1 (S) w ∧ a.defers = [] ∧ RVs Tryz.prog a w [.t 2 v0,.t 3 (.int .i64 r.2.1),.t 4 (.int .i64 r.2.2)] ∧ (pP 5 qlI) m1 [v0] r.1 ∧ InR .i64 r.2.1 ∧ InR .i64 r.2.2
theorem qhh (N:Nat) (vc_0:List Value) (c_0:Code) (hc_0:qgF m0 vc_0 c_0) {r:(Option (Flow)) × Int × Int} (hF:qeg N c_0 = some r) (hG:Glob u) (ok:Ok u m0 (S) w) :
  Calls Tryz.prog 20 [.agg vc_0.toArray].toArray w fun e w'=>∃ m1 v0,e = .returned (.tuple [v0,(.int .i64 r.2.1),(.int .i64 r.2.2)].toArray) ∧ m0.le m1 ∧ Ok u m1 (S) w' ∧ (pP 5 qlI) m1 [v0] r.1 ∧ InR .i64 r.2.1 ∧ InR .i64 r.2.2:=by
 obtain ⟨c1,c3,rfl,h2,h4⟩:=hc_0
 have le_m0:=Mem.le.refl m0
 unfold qeg at hF
 refine en (qfV u m0 S) r Tryz.func20 rfl rfl rfl (by rintro a w ⟨m1,v0,hle,ok,hd,hrv,h0,h1,h2⟩; exact qcw [.t 2 v0,.t 3 (.int .i64 r.2.1),.t 4 (.int .i64 r.2.2)] hd rfl hrv ⟨m1,v0,rfl,hle,ok,h0,h1,h2⟩) fun fin a E=>sg<|qdf E ok rfl rfl rfl fun b5 a w E ok=>av E rfl fun a E=>av E rfl fun a E=>av E rfl fun a E=>wn<|wp_seq<|sg<|fk E ok qgQ qi0 rfl 0 rfl rfl fun a E=>bd hF fun r6 e7 hF=>lc E qrA rfl (qk8 N _ c_0.Names h2 e7 hG ok) fun w ok a E=>lw E (qaz rfl) fun a E=>wn<|cf E rfl hF (fun c8 hF=>?_) fun c8 hF=>?_
 ·refine sg<|av E rfl fun a E=>av E rfl fun a E=>aw E rfl fun a E=>wp_ret<|qaf ?_
  exact fin hF ⟨m0,(Value.pointer none),le_m0,ok.drop,E.d,⟨rv_t E rfl,rv_t E rfl,rv_t E rfl,trivial⟩,qhP,(ir 0),(ir 1)⟩
 refine wp_skip<|qaa<|sg<|fk E ok qbF qbO rfl 0 rfl rfl fun a E=>lv E ok (qax qbp h4 rfl) fun a E=>av E rfl fun a E=>wn<|wp_seq<|sg<|mv E rfl fun a E=>lw E (qa9 rfl rfl) fun a E=>wn<|cf E rfl hF (fun c9 hF=>?_) fun c9 hF=>?_
 ·refine sg<|av E rfl fun a E=>av E rfl fun a E=>aw E rfl fun a E=>wp_ret<|qaf ?_
  exact fin hF ⟨m0,(Value.pointer none),le_m0,ok.drop,E.d,⟨rv_t E rfl,rv_t E rfl,rv_t E rfl,trivial⟩,qhP,(ir 0),(ir 6)⟩
 refine wp_skip<|qaa<|wp_seq<|sg<|fk E ok qbF qbO rfl 0 rfl rfl fun a E=>lv E ok (qax qbp h4 rfl) fun a E=>mv E rfl fun a E=>wn<|wp_block<|bd hF fun o11 hL hF=>qaX _ (fun (s:Int) a w=>Ok u m0 ([(b5,oc 28 [c1,c3])] :: S) w ∧ Env 77 a [(1,vp b5),(5,(vi (c_0.Ins.length:Int))),(20,(vi (c_0.Ins.length:Int))),(21,vi s)] ∧ InR .i64 s) (fun (b:(Unit ⊕ ((Option (Flow)) × Int × Int))) e a w=>(Sum.elim (fun b255=>e = (.exit 0) ∧ Ok u m0 ([(b5,oc 28 [c1,c3])] :: S) w ∧ Env 77 a [(1,vp b5),(5,(vi (c_0.Ins.length:Int)))]) (fun b256=>e = .ret ∧ qfV u m0 S b256 a w)) b) ?_ ?_ N _ a w hL ⟨ok,E.keep [1,5,20,21],(ir 0)⟩
 ·rintro v13 a w r ⟨ok,E,r14⟩ hF
  replace hF:qce N c_0 v13 = some r:=hF
  unfold qce at hF
  refine sg<|lw E (qaJ rfl rfl) fun a E=>wn<|wp_seq<|cg E rfl hF (fun c15 hF=>?_) fun c15 hF=>?_
  ·refine wp_exit<|qaO ?_
   cases hF
   exact so (sl ⟨rfl,⟨ok,E.keep [1,5]⟩⟩)
  refine wp_skip<|qaa<|wp_seq<|wp_block<|sg<|mv E rfl fun a E=>av E rfl fun a E=>wn<|sg<|lv E ok (qaj (cs:=[c1,c3]) qd5 rfl rfl (qac.own 0 rfl rfl)) fun a E=>mv E rfl fun a E=>?_
  refine bd hF fun r16 e17 hF=>lc E qpy rfl (qhn N _ c_0 ⟨_,_,rfl,h2,h4⟩ v13 r14 e17 hG ok) fun w ok a E=>lw E (qaz rfl) fun a E=>wn<|cg E rfl hF (fun c18 hF=>?_) fun c18 hF=>?_
  ·refine wp_skip<|qag<|qaa<|qab<|lw E (qau rfl rfl (InR.inc r14 (qae h4) c15)) fun a E=>mv E rfl fun a E=>wpList_nil ?_
   cases hF
   exact qap ⟨ok,E.keep [1,5,20,21],(InR.inc r14 (qae h4) c15)⟩
  refine sg<|mv E rfl fun a E=>av E rfl fun a E=>av E rfl fun a E=>aw E rfl fun a E=>wp_ret<|qam<|qaf ?_
  cases hF
  exact so (sr ⟨rfl,⟨m0,(Value.pointer none),le_m0,ok.drop,E.d,⟨rv_t E rfl,rv_t E rfl,rv_t E rfl,trivial⟩,qhP,r14,(ir 4)⟩⟩)
 intro e a w _ hO
 rcases o11 with o11 | o11
 rotate_left
 ·obtain ⟨rfl,hret⟩:=hO
  refine qam<|qaf ?_
  exact fin hF hret
 have hF:=qcl hF
 obtain ⟨rfl,ok,E⟩:=hO
 refine qba<|qaa<|wp_seq<|sg<|mv E rfl fun a E=>lw E (qao rfl rfl) fun a E=>mv E rfl fun a E=>bu E 32 hF (fun c19 hF E=>?_) fun c19 hF E=>?_
 ·refine lsz E fun a E=>lsz E fun a E=>pt E rfl rfl fun a E=>wn<|c_if E rfl (fun _=>?_) (fun h=>by cases h)
  refine sg<|mv E rfl fun a E=>av E rfl fun a E=>av E rfl fun a E=>aw E rfl fun a E=>wp_ret<|qaf ?_
  exact fin hF ⟨m0,(Value.pointer none),le_m0,ok.drop,E.d,⟨rv_t E rfl,rv_t E rfl,rv_t E rfl,trivial⟩,qhP,(qae h4),(ir 4)⟩
 refine fk E ok qbF qbO rfl 0 rfl rfl fun a E=>mv E rfl fun a E=>lw E (qh0 rfl rfl) fun a E=>?_
 obtain ⟨x20,e21,hF⟩:=bnd hF
 obtain ⟨b22,o23,es24,hl25,rr26,at27,yy28⟩:=ia E 34 36 qbp h4 e21
 obtain ⟨rfl,r29,r30,r31,l32⟩:=rr26
 refine lv E ok (yy28 _ _) fun a E=>fv E qeB rfl fun a E=>lv E ok (qak qat rfl (qac.ro (At.sub 0 1 at27))) fun a E=>lw E (qda rfl rfl) fun a E=>pf E rfl rfl fun a E=>wn<|cf E rfl hF (fun c33 hF=>?_) fun c33 hF=>?_
 ·refine sg<|mv E rfl fun a E=>av E rfl fun a E=>av E rfl fun a E=>aw E rfl fun a E=>wp_ret<|qaf ?_
  exact fin hF ⟨m0,(Value.pointer none),le_m0,ok.drop,E.d,⟨rv_t E rfl,rv_t E rfl,rv_t E rfl,trivial⟩,qhP,(qae h4),(ir 4)⟩
 refine wp_skip<|qaa<|wp_seq<|bd hF fun o34 hJ hF=>qaK (Q':=fun e a w=>e = .normal ∧ ∃ b48 c35 c37 c39 M40 c42 M43 c45 M46,Ok u m0 ([(b48,oc 54 [c35,c37,c39,c42,c45])] :: M46 :: M43 :: M40 :: [(b5,oc 28 [c1,c3])] :: S) w ∧ Env 77 a [(5,(vi (c_0.Ins.length:Int))),(7,vp b48)] ∧ (pL 1 pS) m0 [c35] o34.c.Names ∧ (pL 4 pIns) m0 [c37] o34.c.Ins ∧ ORow 86 1 (pK 1 pS) m0 c39 o34.open_ M40 ∧ ORow 4 1 pB m0 c42 o34.reached M43 ∧ ORow 4 1 pB m0 c45 o34.clash M46) ?_ ?_
 ·as_aux_lemma =>
   have hF:=hJ
   obtain ⟨l49,e50,hF⟩:=bnd hF
   obtain ⟨l54,e55,hF⟩:=bnd hF
   obtain ⟨l59,e60,hF⟩:=bnd hF
   obtain rfl:=sj hF
   refine qbT [] (Cls u m0 ([(b5,oc 28 [c1,c3])] :: [])) (Cls u m0 ([(b5,oc 28 [c1,c3])] :: [])) (by kernel_rfl) ?_
   intro w hw
   replace ok:=qck ok hw
   clear hw
   refine qan (cl1 (cq le_m0 ok [0] rfl) (cq le_m0 ok [0] rfl)) fun hT=>kt 0 E rfl hT (qaj (cs:=[c1,c3]) qd5 rfl rfl (qac.cown 0 rfl rfl)) fun a E=>kt 1 E rfl hT (qal rfl) fun a E=>kt 3 E rfl hT (qal rfl) fun a E=>kt 5 E rfl hT (qal rfl) fun a E=>qaC [2,4,6] (by kernel_rfl) rfl (qd9 ?_ (qd9 ?_ (qd9 ?_ (qgC))))
   ·refine wo rfl<|qd2 (R:=(pK 1 pS)) E ok qhq qh4 rfl qjf rfl e50 rfl rfl fun c65 M66 a w E ok h67=>wn<|qan (cl1 (cq le_m0 ok [1] rfl) (cq le_m0 ok [1] rfl)) fun hT=>qaC [4,6] (by kernel_rfl) rfl (qd9 ?_ (qd9 ?_ (qgC)))
    ·refine wo rfl<|qd2 (R:=pB) E ok qdm qfm rfl qcO rfl e55 rfl rfl fun c68 M69 a w E ok h70=>wn<|qan (cl1 (cq le_m0 ok [2] rfl) (cq le_m0 ok [2] rfl)) fun hT=>qaC [6] (by kernel_rfl) rfl (qaH ?_)
     ·refine wo rfl<|qd2 (R:=pB) E ok qdm qfm rfl qcO rfl e60 rfl rfl fun c71 M72 a w E ok h73=>wn<|qan (cl1 (cq le_m0 ok [3] rfl) (cq le_m0 ok [3] rfl)) fun hT=>kt 7 E rfl hT (qav (ps:=[(0,.tmp 43),(1,.tmp 45),(2,.tmp 47),(3,.tmp 49)]) (qs:=[(0,[c1,c3]),(2,[c65]),(3,[c68]),(4,[c71])]) (cs:=[c1,c3,c65,c68,c71]) qgS qfv rfl ⟨rfl,rfl,rfl,⟨rfl,(ORow.cells h67),rfl,⟨rfl,(ORow.cells h70),rfl,⟨rfl,(ORow.cells h73),rfl,trivial⟩⟩⟩⟩ rfl) fun a E=>qaC [8] (by kernel_rfl) rfl (qaH ?_)
      ·refine wo rfl<|qdf E ok rfl rfl rfl fun b74 a w E ok=>wn<|qan (cl1 (cq le_m0 ok [4] rfl) (cq le_m0 ok [4] rfl)) fun hT=>kt 9 E rfl hT (qa4 rfl) fun a E=>qbq (by kernel_rfl) ?_
       exact ⟨rfl,⟨b74,c1,c3,c65,M66,c68,M69,c71,M72,ok,E.keep [5,7],h2,h4,h67,h70,h73⟩⟩
    refine wo rfl<|qd2 (R:=pB) E ok qdm qfm rfl qcO rfl e60 rfl rfl fun c75 M76 a w E ok h77=>wn<|qan (cl1 (cq le_m0 ok [2] rfl) (cq le_m0 ok [2] rfl)) fun hT=>qaC [4] (by kernel_rfl) rfl (qaH ?_)
    ·refine wo rfl<|qd2 (R:=pB) E ok qdm qfm rfl qcO rfl e55 rfl rfl fun c78 M79 a w E ok h80=>wn<|qan (cl1 (cq le_m0 ok [3] rfl) (cq le_m0 ok [3] rfl)) fun hT=>kt 7 E rfl hT (qav (ps:=[(0,.tmp 43),(1,.tmp 45),(2,.tmp 47),(3,.tmp 49)]) (qs:=[(0,[c1,c3]),(2,[c65]),(3,[c78]),(4,[c75])]) (cs:=[c1,c3,c65,c78,c75]) qgS qfv rfl ⟨rfl,rfl,rfl,⟨rfl,(ORow.cells h67),rfl,⟨rfl,(ORow.cells h80),rfl,⟨rfl,(ORow.cells h77),rfl,trivial⟩⟩⟩⟩ rfl) fun a E=>qaC [8] (by kernel_rfl) rfl (qaH ?_)
     ·refine wo rfl<|qdf E ok rfl rfl rfl fun b81 a w E ok=>wn<|qan (cl1 (cq le_m0 ok [4] rfl) (cq le_m0 ok [4] rfl)) fun hT=>kt 9 E rfl hT (qa4 rfl) fun a E=>qbq (by kernel_rfl) ?_
      exact ⟨rfl,⟨b81,c1,c3,c65,M66,c78,M79,c75,M76,(ok.pk 5 [0,2,1,3,4] rfl (by decide)),E.keep [5,7],h2,h4,h67,h80,h77⟩⟩
   ·refine wo rfl<|qd2 (R:=pB) E ok qdm qfm rfl qcO rfl e55 rfl rfl fun c82 M83 a w E ok h84=>wn<|qan (cl1 (cq le_m0 ok [1] rfl) (cq le_m0 ok [1] rfl)) fun hT=>qaC [2,6] (by kernel_rfl) rfl (qd9 ?_ (qd9 ?_ (qgC)))
    ·refine wo rfl<|qd2 (R:=(pK 1 pS)) E ok qhq qh4 rfl qjf rfl e50 rfl rfl fun c85 M86 a w E ok h87=>wn<|qan (cl1 (cq le_m0 ok [2] rfl) (cq le_m0 ok [2] rfl)) fun hT=>qaC [6] (by kernel_rfl) rfl (qaH ?_)
     ·refine wo rfl<|qd2 (R:=pB) E ok qdm qfm rfl qcO rfl e60 rfl rfl fun c88 M89 a w E ok h90=>wn<|qan (cl1 (cq le_m0 ok [3] rfl) (cq le_m0 ok [3] rfl)) fun hT=>kt 7 E rfl hT (qav (ps:=[(0,.tmp 43),(1,.tmp 45),(2,.tmp 47),(3,.tmp 49)]) (qs:=[(0,[c1,c3]),(2,[c85]),(3,[c82]),(4,[c88])]) (cs:=[c1,c3,c85,c82,c88]) qgS qfv rfl ⟨rfl,rfl,rfl,⟨rfl,(ORow.cells h87),rfl,⟨rfl,(ORow.cells h84),rfl,⟨rfl,(ORow.cells h90),rfl,trivial⟩⟩⟩⟩ rfl) fun a E=>qaC [8] (by kernel_rfl) rfl (qaH ?_)
      ·refine wo rfl<|qdf E ok rfl rfl rfl fun b91 a w E ok=>wn<|qan (cl1 (cq le_m0 ok [4] rfl) (cq le_m0 ok [4] rfl)) fun hT=>kt 9 E rfl hT (qa4 rfl) fun a E=>qbq (by kernel_rfl) ?_
       exact ⟨rfl,⟨b91,c1,c3,c85,M86,c82,M83,c88,M89,(ok.pk 5 [0,1,3,2,4] rfl (by decide)),E.keep [5,7],h2,h4,h87,h84,h90⟩⟩
    refine wo rfl<|qd2 (R:=pB) E ok qdm qfm rfl qcO rfl e60 rfl rfl fun c92 M93 a w E ok h94=>wn<|qan (cl1 (cq le_m0 ok [2] rfl) (cq le_m0 ok [2] rfl)) fun hT=>qaC [2] (by kernel_rfl) rfl (qaH ?_)
    ·refine wo rfl<|qd2 (R:=(pK 1 pS)) E ok qhq qh4 rfl qjf rfl e50 rfl rfl fun c95 M96 a w E ok h97=>wn<|qan (cl1 (cq le_m0 ok [3] rfl) (cq le_m0 ok [3] rfl)) fun hT=>kt 7 E rfl hT (qav (ps:=[(0,.tmp 43),(1,.tmp 45),(2,.tmp 47),(3,.tmp 49)]) (qs:=[(0,[c1,c3]),(2,[c95]),(3,[c82]),(4,[c92])]) (cs:=[c1,c3,c95,c82,c92]) qgS qfv rfl ⟨rfl,rfl,rfl,⟨rfl,(ORow.cells h97),rfl,⟨rfl,(ORow.cells h84),rfl,⟨rfl,(ORow.cells h94),rfl,trivial⟩⟩⟩⟩ rfl) fun a E=>qaC [8] (by kernel_rfl) rfl (qaH ?_)
     ·refine wo rfl<|qdf E ok rfl rfl rfl fun b98 a w E ok=>wn<|qan (cl1 (cq le_m0 ok [4] rfl) (cq le_m0 ok [4] rfl)) fun hT=>kt 9 E rfl hT (qa4 rfl) fun a E=>qbq (by kernel_rfl) ?_
      exact ⟨rfl,⟨b98,c1,c3,c95,M96,c82,M83,c92,M93,(ok.pk 5 [0,2,3,1,4] rfl (by decide)),E.keep [5,7],h2,h4,h97,h84,h94⟩⟩
   refine wo rfl<|qd2 (R:=pB) E ok qdm qfm rfl qcO rfl e60 rfl rfl fun c99 M100 a w E ok h101=>wn<|qan (cl1 (cq le_m0 ok [1] rfl) (cq le_m0 ok [1] rfl)) fun hT=>qaC [2,4] (by kernel_rfl) rfl (qd9 ?_ (qd9 ?_ (qgC)))
   ·refine wo rfl<|qd2 (R:=(pK 1 pS)) E ok qhq qh4 rfl qjf rfl e50 rfl rfl fun c102 M103 a w E ok h104=>wn<|qan (cl1 (cq le_m0 ok [2] rfl) (cq le_m0 ok [2] rfl)) fun hT=>qaC [4] (by kernel_rfl) rfl (qaH ?_)
    ·refine wo rfl<|qd2 (R:=pB) E ok qdm qfm rfl qcO rfl e55 rfl rfl fun c105 M106 a w E ok h107=>wn<|qan (cl1 (cq le_m0 ok [3] rfl) (cq le_m0 ok [3] rfl)) fun hT=>kt 7 E rfl hT (qav (ps:=[(0,.tmp 43),(1,.tmp 45),(2,.tmp 47),(3,.tmp 49)]) (qs:=[(0,[c1,c3]),(2,[c102]),(3,[c105]),(4,[c99])]) (cs:=[c1,c3,c102,c105,c99]) qgS qfv rfl ⟨rfl,rfl,rfl,⟨rfl,(ORow.cells h104),rfl,⟨rfl,(ORow.cells h107),rfl,⟨rfl,(ORow.cells h101),rfl,trivial⟩⟩⟩⟩ rfl) fun a E=>qaC [8] (by kernel_rfl) rfl (qaH ?_)
     ·refine wo rfl<|qdf E ok rfl rfl rfl fun b108 a w E ok=>wn<|qan (cl1 (cq le_m0 ok [4] rfl) (cq le_m0 ok [4] rfl)) fun hT=>kt 9 E rfl hT (qa4 rfl) fun a E=>qbq (by kernel_rfl) ?_
      exact ⟨rfl,⟨b108,c1,c3,c102,M103,c105,M106,c99,M100,(ok.pk 5 [0,3,1,2,4] rfl (by decide)),E.keep [5,7],h2,h4,h104,h107,h101⟩⟩
   refine wo rfl<|qd2 (R:=pB) E ok qdm qfm rfl qcO rfl e55 rfl rfl fun c109 M110 a w E ok h111=>wn<|qan (cl1 (cq le_m0 ok [2] rfl) (cq le_m0 ok [2] rfl)) fun hT=>qaC [2] (by kernel_rfl) rfl (qaH ?_)
   ·refine wo rfl<|qd2 (R:=(pK 1 pS)) E ok qhq qh4 rfl qjf rfl e50 rfl rfl fun c112 M113 a w E ok h114=>wn<|qan (cl1 (cq le_m0 ok [3] rfl) (cq le_m0 ok [3] rfl)) fun hT=>kt 7 E rfl hT (qav (ps:=[(0,.tmp 43),(1,.tmp 45),(2,.tmp 47),(3,.tmp 49)]) (qs:=[(0,[c1,c3]),(2,[c112]),(3,[c109]),(4,[c99])]) (cs:=[c1,c3,c112,c109,c99]) qgS qfv rfl ⟨rfl,rfl,rfl,⟨rfl,(ORow.cells h114),rfl,⟨rfl,(ORow.cells h111),rfl,⟨rfl,(ORow.cells h101),rfl,trivial⟩⟩⟩⟩ rfl) fun a E=>qaC [8] (by kernel_rfl) rfl (qaH ?_)
    ·refine wo rfl<|qdf E ok rfl rfl rfl fun b115 a w E ok=>wn<|qan (cl1 (cq le_m0 ok [4] rfl) (cq le_m0 ok [4] rfl)) fun hT=>kt 9 E rfl hT (qa4 rfl) fun a E=>qbq (by kernel_rfl) ?_
     exact ⟨rfl,⟨b115,c1,c3,c112,M113,c109,M110,c99,M100,(ok.pk 5 [0,3,2,1,4] rfl (by decide)),E.keep [5,7],h2,h4,h114,h111,h101⟩⟩
 intro e a w hO
 obtain ⟨rfl,b129,c116,c118,c120,M121,c123,M124,c126,M127,ok,E,h117,h119,h122,h125,h128⟩:=hO
 refine qaa<|sg<|mv E rfl fun a E=>lw E (qaE rfl) fun a E=>fk E ok qhK qfj rfl 0 rfl rfl fun a E=>?_
 obtain ⟨x130,e131,hF⟩:=bnd hF
 obtain ⟨b132,o133,hp134,yy135⟩:=qdd qdm h125 e131 (P:=Tryz.prog) (X:=.tmp 55) (I:=.const (vi 0)) (kd:=.i64) (qaS E rfl) (qaS E rfl)
 refine lv E ok (yy135 _ _) fun a E=>bd hF fun l136 e137 hF=>qfH (R:=pB) E ok 2 rfl h125 e131 hp134 rfl rfl qkw rfl rfl rfl ⟨rfl,trivial⟩ qcO e137 rfl fun M138 w ok h139=>wn<|wp_seq<|sg<|mz E rfl rfl fun a E=>wn<|wp_block<|bd hF fun o155 hL hF=>qaX _ (fun (s:Int × Flow) a w=>∃ m156 c158 c160 c162 M163 c165 M166 c168 M169,m0.le m156 ∧ Ok u m156 ([(b129,oc 54 [c158,c160,c162,c165,c168])] :: M169 :: M166 :: M163 :: [(b5,oc 28 [c1,c3])] :: S) w ∧ Env 77 a [(7,vp b129),(57,(vi (c_0.Ins.length:Int))),(58,vi s.1)] ∧ InR .i64 s.1 ∧ (pL 1 pS) m156 [c158] s.2.c.Names ∧ (pL 4 pIns) m156 [c160] s.2.c.Ins ∧ ORow 86 1 (pK 1 pS) m156 c162 s.2.open_ M163 ∧ ORow 4 1 pB m156 c165 s.2.reached M166 ∧ ORow 4 1 pB m156 c168 s.2.clash M169) (fun (b:(Flow ⊕ ((Option (Flow)) × Int × Int))) e a w=>(Sum.elim (fun b239=>e = (.exit 2) ∧ ∃ m240 c241 c243 c245 M246 c248 M249 c251 M252,m0.le m240 ∧ Ok u m240 ([(b129,oc 54 [c241,c243,c245,c248,c251])] :: M252 :: M249 :: M246 :: [(b5,oc 28 [c1,c3])] :: S) w ∧ Env 77 a [(7,vp b129)] ∧ (pL 1 pS) m240 [c241] b239.c.Names ∧ (pL 4 pIns) m240 [c243] b239.c.Ins ∧ ORow 86 1 (pK 1 pS) m240 c245 b239.open_ M246 ∧ ORow 4 1 pB m240 c248 b239.reached M249 ∧ ORow 4 1 pB m240 c251 b239.clash M252) (fun b254=>e = .ret ∧ qfV u m0 S b254 a w)) b) ?_ ?_ N _ a w hL ⟨m0,c116,c118,c120,M121,c123,M138,c126,M127,Mem.le.refl _,ok,E.keep [7,57,58],(ir 0),h117,h119,h122,h139,h128⟩
 rotate_left
 ·as_aux_lemma =>
   intro e a w _ hO
   rcases o155 with o155 | o155
   rotate_left
   ·obtain ⟨rfl,hret⟩:=hO
    refine qam<|qaf ?_
    exact fin hF hret
   have hF:=qcl hF
   obtain ⟨rfl,m217,c218,c220,c222,M223,c225,M226,c228,M229,hle,ok,E,h219,h221,h224,h227,h230⟩:=hO
   have le_m0:=le_m0.trans hle
   have h2:=(mL mS).up hle h2
   have h4:=(mL mIns).up hle h4
   have at27:=At.up hle at27
   have h117:=(mL mS).up hle h117
   have h119:=(mL mIns).up hle h119
   refine qba<|qaa<|sg<|mv E rfl fun a E=>av E rfl fun a E=>av E rfl fun a E=>av E rfl fun a E=>wn<|wp_ret ?_
   obtain ⟨m231,hle,ok,hfz⟩:=(ok.frs 3 rfl).freeze
   have h232:=ORow.froz (mK mS) h224 hle hfz (by decide)
   have le_m0:=le_m0.trans hle
   have h2:=(mL mS).up hle h2
   have h4:=(mL mIns).up hle h4
   have at27:=At.up hle at27
   have h117:=(mL mS).up hle h117
   have h119:=(mL mIns).up hle h119
   have h219:=(mL mS).up hle h219
   have h221:=(mL mIns).up hle h221
   have h227:=ORow.up mB hle h227
   have h230:=ORow.up mB hle h230
   obtain ⟨m233,hle,ok,hfz⟩:=(ok.frs 2 rfl).freeze
   have h234:=ORow.froz mB h227 hle hfz (by decide)
   have le_m0:=le_m0.trans hle
   have h2:=(mL mS).up hle h2
   have h4:=(mL mIns).up hle h4
   have at27:=At.up hle at27
   have h117:=(mL mS).up hle h117
   have h119:=(mL mIns).up hle h119
   have h219:=(mL mS).up hle h219
   have h221:=(mL mIns).up hle h221
   have h230:=ORow.up mB hle h230
   have h232:=(mL (mK mS)).up hle h232
   obtain ⟨m235,hle,ok,hfz⟩:=(ok.frs 1 rfl).freeze
   have h236:=ORow.froz mB h230 hle hfz (by decide)
   have le_m0:=le_m0.trans hle
   have h2:=(mL mS).up hle h2
   have h4:=(mL mIns).up hle h4
   have at27:=At.up hle at27
   have h117:=(mL mS).up hle h117
   have h119:=(mL mIns).up hle h119
   have h219:=(mL mS).up hle h219
   have h221:=(mL mIns).up hle h221
   have h232:=(mL (mK mS)).up hle h232
   have h234:=(mL mB).up hle h234
   have hbx:=(show qlI m235 [c218,c220,c222,c225,c228] o155 from ⟨_,_,_,_,_,rfl,h219,h221,h232,h234,h236⟩)
   obtain ⟨m237,hle,ok,hfz⟩:=(ok.frs 0 rfl).freeze
   have h238:=qp0 qqZ hbx hle hfz rfl
   clear hbx
   have le_m0:=le_m0.trans hle
   have h2:=(mL mS).up hle h2
   have h4:=(mL mIns).up hle h4
   have at27:=At.up hle at27
   have h117:=(mL mS).up hle h117
   have h119:=(mL mIns).up hle h119
   have h219:=(mL mS).up hle h219
   have h221:=(mL mIns).up hle h221
   have h232:=(mL (mK mS)).up hle h232
   have h234:=(mL mB).up hle h234
   have h236:=(mL mB).up hle h236
   exact fin hF ⟨m237,vp b129,le_m0,ok.drop,E.d,⟨rv_t E rfl,rv_t E rfl,rv_t E rfl,trivial⟩,h238,(ir 0),(ir 0)⟩
 rintro ⟨v171,v172⟩ a w r ⟨m173,c175,c177,c179,M180,c182,M183,c185,M186,hle,ok,E,r174,h176,h178,h181,h184,h187⟩ hF
 replace hF:qc1 N c_0 v171 v172 = some r:=hF
 unfold qc1 at hF
 have le_m0:=le_m0.trans hle
 have h2:=(mL mS).up hle h2
 have h4:=(mL mIns).up hle h4
 have at27:=At.up hle at27
 have h117:=(mL mS).up hle h117
 have h119:=(mL mIns).up hle h119
 refine sg<|lw E (qaJ rfl rfl) fun a E=>wn<|wp_seq<|cg E rfl hF (fun c188 hF=>?_) fun c188 hF=>?_
 ·refine wp_exit<|qaO ?_
  cases hF
  exact so (sl ⟨rfl,⟨m173,c175,c177,c179,M180,c182,M183,c185,M186,le_m0,ok,E.keep [7],h176,h178,h181,h184,h187⟩⟩)
 refine wp_skip<|qaa<|wp_seq<|wp_block<|sg<|mv E rfl fun a E=>av E rfl fun a E=>wn<|sg<|mv E rfl fun a E=>lw E (qaE rfl) fun a E=>fk E ok qhK qfj rfl 0 rfl rfl fun a E=>mv E rfl fun a E=>?_
 obtain ⟨x189,e190,hF⟩:=bnd hF
 obtain ⟨b191,o192,hp193,yy194⟩:=qdd qdm h184 e190 (P:=Tryz.prog) (X:=.tmp 64) (I:=.tmp 65) (kd:=.i64) (qaS E rfl) (qaS E rfl)
 refine lv E ok (yy194 _ _) fun a E=>?_
 obtain ⟨es195,hl196,rr197,hh198⟩:=qeT h184 e190 hp193 (by decide)
 obtain rfl:=rr197
 refine lv E ok (qak qen rfl (hh198 _ _ _ 2 rfl)) fun a E=>mv E rfl fun a E=>qaW x189 (fun c199=>?_) (fun c199=>?_)
 rotate_left
 ·have hF:=qaV c199 hF
  have E:=E.upd 68 c199 rfl
  refine lsz E fun a E=>pf E rfl rfl fun a E=>wn<|c_if E rfl (fun h=>by cases h) (fun _=>?_)
  refine wp_skip<|qag<|qaa<|qab<|lw E (qau rfl rfl (InR.inc r174 (qae h4) c188)) fun a E=>mv E rfl fun a E=>wpList_nil ?_
  cases hF
  exact qap ⟨m173,c175,c177,c179,M180,c182,M183,c185,M186,le_m0,ok,E.keep [7,57,58],(InR.inc r174 (qae h4) c188),h176,h178,h181,h184,h187⟩
 have hF:=qaU c199 hF
 have E:=E.upd 68 c199 rfl
 refine mz E rfl rfl fun a E=>?_
 obtain ⟨r200,e201,hF⟩:=bnd hF
 replace ok:Ok u m173 ([(b129,oc 54 [c175,c177,c179,c182,c185])] :: M180 :: M183 :: M186 :: [(b5,oc 28 [c1,c3])] :: S) w:=(ok.pk 5 [0,3,2,1,4] rfl (by decide))
 refine qas E qra rfl (qjb N v171 r174 v172 h176 h178 h181 h184 h187 e201 hG ok) rfl rfl ?_
 rintro _ w ⟨m202,c203,c205,c207,M208,c210,M211,c213,M214,rfl,hle,ok,h204,h206,h209,h212,h215⟩
 have le_m0:=le_m0.trans hle
 have h2:=(mL mS).up hle h2
 have h4:=(mL mIns).up hle h4
 have at27:=At.up hle at27
 have h117:=(mL mS).up hle h117
 have h119:=(mL mIns).up hle h119
 have h176:=(mL mS).up hle h176
 have h178:=(mL mIns).up hle h178
 refine ⟨_,rfl,fun a E=>?_⟩
 refine lw E (qaz rfl) fun a E=>pt E rfl rfl fun a E=>wn<|cg E rfl hF (fun c216 hF=>?_) fun c216 hF=>?_
 ·refine wp_skip<|qag<|qaa<|qab<|lw E (qau rfl rfl (InR.inc r174 (qae h4) c188)) fun a E=>mv E rfl fun a E=>wpList_nil ?_
  cases hF
  exact qap ⟨m202,c203,c205,c207,M208,c210,M211,c213,M214,le_m0,(ok.pk 5 [0,3,2,1,4] rfl (by decide)),E.keep [7,57,58],(InR.inc r174 (qae h4) c188),h204,h206,h209,h212,h215⟩
 refine sg<|mv E rfl fun a E=>av E rfl fun a E=>av E rfl fun a E=>aw E rfl fun a E=>wp_ret<|qam<|qaf ?_
 cases hF
 exact so (sr ⟨rfl,⟨m202,(Value.pointer none),le_m0,ok.drop.drop.drop.drop.drop,E.d,⟨rv_t E rfl,rv_t E rfl,rv_t E rfl,trivial⟩,qhP,r174,(ir 7)⟩⟩)
def qkJ (u:World) (m0:Mem) (S:Segs) (r:Int × Int) (a:Act) (w:World):Prop :=
 Ok u m0 S w ∧ a.defers = [] ∧ RVs Tryz.prog a w [.t 2 (.int .i64 r.1),.t 3 (.int .i64 r.2)] ∧ InR .i64 r.1 ∧ InR .i64 r.2
theorem qfc (N:Nat) (vc_0:List Value) (c_0:Code) (hc_0:qgF m0 vc_0 c_0) {r:Int × Int} (hF:qdG N c_0 = some r) (hG:Glob u) (ok:Ok u m0 S w) :
  Calls Tryz.prog 8 [.agg vc_0.toArray].toArray w fun e w'=>(e = .returned (.tuple [(.int .i64 r.1),(.int .i64 r.2)].toArray) ∧ Ok u m0 S w') ∧ InR .i64 r.1 ∧ InR .i64 r.2:=by
 obtain ⟨c1,c3,rfl,h2,h4⟩:=hc_0
 have hb0:=ok.base
 have le_m0:=Mem.le.refl m0
 unfold qdG at hF
 refine en (qkJ u m0 S) r Tryz.func8 rfl rfl rfl (by rintro a w ⟨ok,hd,hrv,h0,h1⟩; exact qcw [.t 2 (.int .i64 r.1),.t 3 (.int .i64 r.2)] hd rfl hrv ⟨⟨rfl,ok⟩,h0,h1⟩) fun fin a E=>sg<|qdf E ok rfl rfl rfl fun b5 a w E ok=>av E rfl fun a E=>aw E rfl fun a E=>sg<|lv E ok (qaj (cs:=[c1,c3]) qd5 rfl rfl (qac.own 0 rfl rfl)) fun a E=>bd hF fun r6 e7 hF=>qas E qpn rfl (qhh N _ c_0 ⟨_,_,rfl,h2,h4⟩ e7 hG ok) rfl rfl ?_
 rintro _ w ⟨m8,c9,rfl,hle,ok,h10,r11,r12⟩
 have le_m0:=le_m0.trans hle
 have h2:=(mL mS).up hle h2
 have h4:=(mL mIns).up hle h4
 refine ⟨_,rfl,fun a E=>?_⟩
 refine mv E rfl fun a E=>lw E (qaF rfl rfl) fun a E=>lw E (qaF rfl rfl) fun a E=>lw E (qaF rfl rfl) fun a E=>av E rfl fun a E=>aw E rfl fun a E=>sg<|mz E rfl rfl fun a E=>av E rfl fun a E=>aw E rfl fun a E=>wp_ret ?_
 exact fin hF ⟨(ok.drop).down hb0 le_m0,E.d,⟨rv_t E rfl,rv_t E rfl,trivial⟩,r11,r12⟩
def qiU (u:World) (m0:Mem) (S:Segs) (r:Bool) (a:Act) (w:World):Prop :=
 Ok u m0 S w ∧ a.defers = [] ∧ RVs Tryz.prog a w [.t 0 (.bool r)]
theorem qiL (N:Nat) {r:Bool} (hF:qey N  = some r) (hG:Glob u) (ok:Ok u m0 S w) :
  Calls Tryz.prog 4 [].toArray w fun e w'=>(e = .returned (.bool r) ∧ Ok u m0 S w'):=by
 unfold qey at hF
 refine en (qiU u m0 S) r Tryz.func4 rfl rfl rfl (fun _ _ h=>ra h rfl) fun fin a E=>sg<|aw E rfl fun a E=>sg<|lw E (qav (ps:=[(0,.const (vi 2)),(3,.const (vs ([98])))]) (qs:=[(0,[vi 2]),(3,[(vs ([98]))])]) (cs:=[vi 2,vi 0,vi 0,(vs ([98]))]) qbl qbG rfl ⟨rfl,rfl,rfl,⟨rfl,rfl,rfl,trivial⟩⟩ rfl) fun a E=>lw E (qav (ps:=[(0,.const (vi 3)),(3,.const (vs ([105])))]) (qs:=[(0,[vi 3]),(3,[(vs ([105]))])]) (cs:=[vi 3,vi 0,vi 0,(vs ([105]))]) qbl qbG rfl ⟨rfl,rfl,rfl,⟨rfl,rfl,rfl,trivial⟩⟩ rfl) fun a E=>lw E (qav (ps:=[(0,.const (vi 13))]) (qs:=[(0,[vi 13])]) (cs:=[vi 13,vi 0,vi 0,(vs ([]))]) qbl qbG rfl ⟨rfl,rfl,rfl,trivial⟩ rfl) fun a E=>qcy (R:=pIns) (xo:=[.tmp 8,.tmp 9,.tmp 10]) (xs:=([(Ins.mk 2 0 0 ([98])),(Ins.mk 3 0 0 ([105])),(Ins.mk 13 0 0 ([]))]:List (Ins))) E ok qbp qbl rfl ⟨⟨_,rfl,rfl,⟨rfl,(ir 2),(ir 0),(ir 0),(show ([98]:List UInt8).length ≤ LIMS by decide)⟩⟩,⟨_,rfl,rfl,⟨rfl,(ir 3),(ir 0),(ir 0),(show ([105]:List UInt8).length ≤ LIMS by decide)⟩⟩,⟨_,rfl,rfl,⟨rfl,(ir 13),(ir 0),(ir 0),(Nat.zero_le _)⟩⟩,trivial⟩ rfl rfl rfl rfl fun c1 M2 a w E ok h3=>lw E (qav (ps:=[(1,.tmp 11)]) (qs:=[(1,[c1])]) (cs:=[(Value.slice none 0 0),c1]) qf3 qgq rfl ⟨rfl,(ORow.cells h3),rfl,trivial⟩ rfl) fun a E=>?_
 obtain ⟨r9,e10,hF⟩:=bnd hF
 obtain ⟨m4,hle6,ok5,hfz7⟩:=(ok.frs 0 rfl).freeze
 have h8:=ORow.froz mIns h3 hle6 hfz7 (by decide)
 refine qas E go_8 rfl (qfc N _ (Code.mk ([]) ([(Ins.mk 2 0 0 ([98])),(Ins.mk 3 0 0 ([105])),(Ins.mk 13 0 0 ([]))]:List (Ins))) ⟨_,_,rfl,qfQ,h8⟩ e10 hG ok5) rfl rfl ?_
 rintro _ w ⟨⟨rfl,okz⟩,r11,r12⟩
 replace ok:=(Ok.thawAt 0 rfl ok hle6 hfz7 okz)
 refine ⟨_,rfl,fun a E=>?_⟩
 refine mv E rfl fun a E=>lw E (qaF rfl rfl) fun a E=>lw E (qaF rfl rfl) fun a E=>av E rfl fun a E=>aw E rfl fun a E=>sg<|lw E (qav (ps:=[(0,.const (vi 12))]) (qs:=[(0,[vi 12])]) (cs:=[vi 12,vi 0,vi 0,(vs ([]))]) qbl qbG rfl ⟨rfl,rfl,rfl,trivial⟩ rfl) fun a E=>lw E (qav (ps:=[(0,.const (vi 13))]) (qs:=[(0,[vi 13])]) (cs:=[vi 13,vi 0,vi 0,(vs ([]))]) qbl qbG rfl ⟨rfl,rfl,rfl,trivial⟩ rfl) fun a E=>qcy (R:=pIns) (xo:=[.tmp 17,.tmp 18]) (xs:=([(Ins.mk 12 0 0 ([])),(Ins.mk 13 0 0 ([]))]:List (Ins))) E ok qbp qbl rfl ⟨⟨_,rfl,rfl,⟨rfl,(ir 12),(ir 0),(ir 0),(Nat.zero_le _)⟩⟩,⟨_,rfl,rfl,⟨rfl,(ir 13),(ir 0),(ir 0),(Nat.zero_le _)⟩⟩,trivial⟩ rfl rfl rfl rfl fun c13 M14 a w E ok h15=>lw E (qav (ps:=[(1,.tmp 19)]) (qs:=[(1,[c13])]) (cs:=[(Value.slice none 0 0),c13]) qf3 qgq rfl ⟨rfl,(ORow.cells h15),rfl,trivial⟩ rfl) fun a E=>?_
 obtain ⟨r21,e22,hF⟩:=bnd hF
 obtain ⟨m16,hle18,ok17,hfz19⟩:=(ok.frs 0 rfl).freeze
 have h20:=ORow.froz mIns h15 hle18 hfz19 (by decide)
 refine qas E go_8 rfl (qfc N _ (Code.mk ([]) ([(Ins.mk 12 0 0 ([])),(Ins.mk 13 0 0 ([]))]:List (Ins))) ⟨_,_,rfl,qfQ,h20⟩ e22 hG ok17) rfl rfl ?_
 rintro _ w ⟨⟨rfl,okz⟩,r23,r24⟩
 replace ok:=(Ok.thawAt 0 rfl ok hle18 hfz19 okz)
 refine ⟨_,rfl,fun a E=>?_⟩
 refine mv E rfl fun a E=>lw E (qaF rfl rfl) fun a E=>lw E (qaF rfl rfl) fun a E=>av E rfl fun a E=>aw E rfl fun a E=>sg<|lw E (qav (ps:=[(0,.const (vi 13))]) (qs:=[(0,[vi 13])]) (cs:=[vi 13,vi 0,vi 0,(vs ([]))]) qbl qbG rfl ⟨rfl,rfl,rfl,trivial⟩ rfl) fun a E=>qcy (R:=pIns) (xo:=[.tmp 25]) (xs:=([(Ins.mk 13 0 0 ([]))]:List (Ins))) E ok qbp qbl rfl ⟨⟨_,rfl,rfl,⟨rfl,(ir 13),(ir 0),(ir 0),(Nat.zero_le _)⟩⟩,trivial⟩ rfl rfl rfl rfl fun c25 M26 a w E ok h27=>lw E (qav (ps:=[(1,.tmp 26)]) (qs:=[(1,[c25])]) (cs:=[(Value.slice none 0 0),c25]) qf3 qgq rfl ⟨rfl,(ORow.cells h27),rfl,trivial⟩ rfl) fun a E=>?_
 obtain ⟨r33,e34,hF⟩:=bnd hF
 obtain ⟨m28,hle30,ok29,hfz31⟩:=(ok.frs 0 rfl).freeze
 have h32:=ORow.froz mIns h27 hle30 hfz31 (by decide)
 refine qas E go_8 rfl (qfc N _ (Code.mk ([]) ([(Ins.mk 13 0 0 ([]))]:List (Ins))) ⟨_,_,rfl,qfQ,h32⟩ e34 hG ok29) rfl rfl ?_
 rintro _ w ⟨⟨rfl,okz⟩,r35,r36⟩
 replace ok:=(Ok.thawAt 0 rfl ok hle30 hfz31 okz)
 refine ⟨_,rfl,fun a E=>?_⟩
 refine mv E rfl fun a E=>lw E (qaF rfl rfl) fun a E=>lw E (qaF rfl rfl) fun a E=>av E rfl fun a E=>aw E rfl fun a E=>sg<|mv E rfl fun a E=>lw E (qao rfl rfl) fun a E=>mv E rfl fun a E=>bw E 33 hF (fun c37 hF E=>?_) fun c37 hF E=>?_
 ·refine lsq E fun a E=>pf E rfl rfl fun a E=>mv E rfl fun a E=>lsq E fun a E=>pf E rfl rfl fun a E=>mv E rfl fun a E=>lsq E fun a E=>pf E rfl rfl fun a E=>mv E rfl fun a E=>lsz E fun a E=>?_
  refine pf E rfl rfl fun a E=>aw E rfl fun a E=>wp_ret ?_
  exact fin hF ⟨ok.drop.drop.drop,E.d,rz E rfl⟩
 refine mv E rfl fun a E=>lw E (qao rfl rfl) fun a E=>pt E rfl rfl fun a E=>mv E rfl fun a E=>bw E 37 hF (fun c38 hF E=>?_) fun c38 hF E=>?_
 ·refine lsq E fun a E=>pf E rfl rfl fun a E=>mv E rfl fun a E=>lsq E fun a E=>pf E rfl rfl fun a E=>mv E rfl fun a E=>lsz E fun a E=>pf E rfl rfl fun a E=>aw E rfl fun a E=>wp_ret ?_
  exact fin hF ⟨ok.drop.drop.drop,E.d,rz E rfl⟩
 refine mv E rfl fun a E=>lw E (qao rfl rfl) fun a E=>pt E rfl rfl fun a E=>mv E rfl fun a E=>bw E 41 hF (fun c39 hF E=>?_) fun c39 hF E=>?_
 ·refine lsq E fun a E=>pf E rfl rfl fun a E=>mv E rfl fun a E=>lsz E fun a E=>pf E rfl rfl fun a E=>aw E rfl fun a E=>wp_ret ?_
  exact fin hF ⟨ok.drop.drop.drop,E.d,rz E rfl⟩
 refine mv E rfl fun a E=>lw E (qao rfl rfl) fun a E=>pt E rfl rfl fun a E=>mv E rfl fun a E=>bw E 45 hF (fun c40 hF E=>?_) fun c40 hF E=>?_
 ·refine lsz E fun a E=>pf E rfl rfl fun a E=>aw E rfl fun a E=>wp_ret ?_
  exact fin hF ⟨ok.drop.drop.drop,E.d,rz E rfl⟩
 refine lw E (qav (ps:=[(0,.const (vi 13))]) (qs:=[(0,[vi 13])]) (cs:=[vi 13,vi 0,vi 0,(vs ([]))]) qbl qbG rfl ⟨rfl,rfl,rfl,trivial⟩ rfl) fun a E=>qcy (R:=pIns) (xo:=[.tmp 46]) (xs:=([(Ins.mk 13 0 0 ([]))]:List (Ins))) E ok qbp qbl rfl ⟨⟨_,rfl,rfl,⟨rfl,(ir 13),(ir 0),(ir 0),(Nat.zero_le _)⟩⟩,trivial⟩ rfl rfl rfl rfl fun c41 M42 a w E ok h43=>lw E (qav (ps:=[(1,.tmp 47)]) (qs:=[(1,[c41])]) (cs:=[(Value.slice none 0 0),c41]) qf3 qgq rfl ⟨rfl,(ORow.cells h43),rfl,trivial⟩ rfl) fun a E=>?_
 obtain ⟨r49,e50,hF⟩:=bnd hF
 obtain ⟨m44,hle46,ok45,hfz47⟩:=(ok.frs 0 rfl).freeze
 have h48:=ORow.froz mIns h43 hle46 hfz47 (by decide)
 refine qas E qpy rfl (qhn N _ (Code.mk ([]) ([(Ins.mk 13 0 0 ([]))]:List (Ins))) ⟨_,_,rfl,qfQ,h48⟩ 0 (ir 0) e50 hG ok45) rfl rfl ?_
 rintro _ w ⟨rfl,okz⟩
 replace ok:=(Ok.thawAt 0 rfl ok hle46 hfz47 okz)
 refine ⟨_,rfl,fun a E=>?_⟩
 refine pt E rfl rfl fun a E=>aw E rfl fun a E=>wp_ret ?_
 exact fin hF ⟨ok.drop.drop.drop.drop,E.d,rz E rfl⟩
def qjN (u:World) (m0:Mem) (S:Segs) (r:(List (Bool)) × Int) (a:Act) (w:World):Prop :=
 ∃ m1 v0,m0.le m1 ∧ Ok u m1 S w ∧ a.defers = [] ∧ RVs Tryz.prog a w [.t 2 v0,.t 3 (.int .i64 r.2)] ∧ (pL 1 pB) m1 [v0] r.1 ∧ InR .i64 r.2
theorem qjX (N:Nat) (vc_0:List Value) (c_0:Code) (hc_0:qgF m0 vc_0 c_0) {r:(List (Bool)) × Int} (hF:qeC N c_0 = some r) (hG:Glob u) (ok:Ok u m0 S w) :
  Calls Tryz.prog 9 [.agg vc_0.toArray].toArray w fun e w'=>∃ m1 v0,e = .returned (.tuple [v0,(.int .i64 r.2)].toArray) ∧ m0.le m1 ∧ Ok u m1 S w' ∧ (pL 1 pB) m1 [v0] r.1 ∧ InR .i64 r.2:=by
 obtain ⟨c1,c3,rfl,h2,h4⟩:=hc_0
 have le_m0:=Mem.le.refl m0
 unfold qeC at hF
 refine en (qjN u m0 S) r Tryz.func9 rfl rfl rfl (by rintro a w ⟨m1,v0,hle,ok,hd,hrv,h0,h1⟩; exact qcw [.t 2 v0,.t 3 (.int .i64 r.2)] hd rfl hrv ⟨m1,v0,rfl,hle,ok,h0,h1⟩) fun fin a E=>sg<|qdf E ok rfl rfl rfl fun b5 a w E ok=>av E rfl fun a E=>aw E rfl fun a E=>sg<|lv E ok (qaj (cs:=[c1,c3]) qd5 rfl rfl (qac.own 0 rfl rfl)) fun a E=>bd hF fun r6 e7 hF=>qas E qpn rfl (qhh N _ c_0 ⟨_,_,rfl,h2,h4⟩ e7 hG ok) rfl rfl ?_
 rintro _ w ⟨m8,c9,rfl,hle,ok,h10,r11,r12⟩
 have le_m0:=le_m0.trans hle
 have h2:=(mL mS).up hle h2
 have h4:=(mL mIns).up hle h4
 refine ⟨_,rfl,fun a E=>?_⟩
 refine mv E rfl fun a E=>lw E (qaF rfl rfl) fun a E=>lw E (qaF rfl rfl) fun a E=>lw E (qaF rfl rfl) fun a E=>av E rfl fun a E=>av E rfl fun a E=>av E rfl fun a E=>wn<|wp_seq<|sg<|mv E rfl fun a E=>lw E (qda rfl rfl) fun a E=>wn<|cf E rfl hF (fun c13 hF=>?_) fun c13 hF=>?_
 ·refine sg<|mv E rfl fun a E=>av E rfl fun a E=>aw E rfl fun a E=>wp_ret<|qaf ?_
  exact fin hF ⟨m8,(.slice none 0 0),le_m0,ok.drop,E.d,⟨rv_t E rfl,rv_t E rfl,trivial⟩,qfQ,r12⟩
 refine wp_skip<|qaa<|sg<|mv E rfl fun a E=>?_
 obtain ⟨y14,e15,hF⟩:=bnd hF
 obtain ⟨b16,o17,es18,hv19,hl20,hR21,at22⟩:=qpZ h10 e15
 obtain ⟨c23,c25,c27,c29,c31,rfl,h24,h26,h28,h30,h32⟩:=hR21
 refine lv E ok (qev hv19 rfl) fun a E=>fv E qhK rfl fun a E=>lv E ok (qak qfj rfl (qac.ro (At.sub 3 1 at22))) fun a E=>av E rfl fun a E=>aw E rfl fun a E=>wp_ret ?_
 exact fin hF ⟨m8,c29,le_m0,ok.drop,E.d,⟨rv_t E rfl,rv_t E rfl,trivial⟩,h30,(ir 0)⟩
end Go.Proofs.YtmghnmfefpeelaaGreatDoor
namespace Go.Proofs.YtmghnmfefpeelaaGreatDoor
open Go.X
variable {u:World} {m0:Mem} {S:Segs} {w:World}
set_option maxHeartbeats 4000000
set_option maxRecDepth 100000
theorem go_4:goB Tryz.prog 4 = true:=by kernel_rfl
theorem go_5:goB Tryz.prog 5 = true:=by kernel_rfl
theorem go_6:goB Tryz.prog 6 = true:=by kernel_rfl
theorem go_7:goB Tryz.prog 7 = true:=by kernel_rfl
theorem go_9:goB Tryz.prog 9 = true:=by kernel_rfl
def qeH (u:World) (m0:Mem) (S:Segs) (r:Bool) (a:Act) (w:World):Prop :=
 Ok u m0 S w ∧ a.defers = [] ∧ RVs Tryz.prog a w [.t 2 (.bool r)]
theorem qf0 (N:Nat) (vp_0:Value) (p_0:List (Part)) (hp_0:(pL 6 qbD) m0 [vp_0] p_0) {r:Bool} (hF:qbg N p_0 = some r) (hG:Glob u) (ok:Ok u m0 S w) :
  Calls Tryz.prog 3 [vp_0].toArray w fun e w'=>(e = .returned (.bool r) ∧ Ok u m0 S w'):=by
 have hb0:=ok.base
 have le_m0:=Mem.le.refl m0
 unfold qbg at hF
 refine en (qeH u m0 S) r Tryz.func3 rfl rfl rfl (fun _ _ h=>ra h rfl) fun fin a E=>sg<|aw E rfl fun a E=>wp_seq<|sg<|bd hF fun r1 e2 hF=>lc E go_4 rfl (qiL N  e2 hG ok) fun w ok a E=>lw E (qaz rfl) fun a E=>wn<|cf E rfl hF (fun c3 hF=>?_) fun c3 hF=>?_
 ·refine sg<|aw E rfl fun a E=>wp_ret<|qaf ?_
  exact fin hF ⟨ok,E.d,rz E rfl⟩
 refine wp_skip<|qaa<|wp_seq<|sg<|mv E rfl fun a E=>bd hF fun r4 e5 hF=>lc E go_5 rfl (qjF N _ p_0 hp_0 e5 hG ok) fun w ok a E=>lw E (qaz rfl) fun a E=>wn<|cf E rfl hF (fun c6 hF=>?_) fun c6 hF=>?_
 ·refine sg<|aw E rfl fun a E=>wp_ret<|qaf ?_
  exact fin hF ⟨ok,E.d,rz E rfl⟩
 refine wp_skip<|qaa<|sg<|mv E rfl fun a E=>bd hF fun r7 e8 hF=>qas E go_6 rfl (qjE N _ p_0 hp_0 e8 hG ok) rfl rfl ?_
 rintro _ w ⟨m9,vs10,rfl,hle,ok,h11,r12⟩
 have le_m0:=le_m0.trans hle
 have hp_0:=(mL qaq).up hle hp_0
 obtain ⟨c13,c15,rfl,h14,h16⟩:=h11
 refine ⟨_,rfl,fun a E=>?_⟩
 refine mv E rfl fun a E=>lw E (qaF rfl rfl) fun a E=>lw E (qaF rfl rfl) fun a E=>qbh E ok qf3 rfl rfl fun b17 a w E ok=>qai E ok 0 rfl rfl rfl qlM rfl rfl ⟨(qcW h14),(qcW h16),trivial⟩ rfl rfl fun w ok=>aw E rfl fun a E=>wp_seq<|sg<|mv E rfl fun a E=>lw E (qda rfl rfl) fun a E=>wn<|cf E rfl hF (fun c18 hF=>?_) fun c18 hF=>?_
 ·refine sg<|mv E rfl fun a E=>bd hF fun r19 e20 hF=>lc E go_7 rfl (qiF N _ p_0 hp_0 e20 hG ok) fun w ok a E=>lw E (qaz rfl) fun a E=>aw E rfl fun a E=>wp_ret<|qaf ?_
  exact fin hF ⟨(ok.drop).down hb0 le_m0,E.d,rz E rfl⟩
 refine wp_skip<|qaa<|sg<|lv E ok (qaj (cs:=[c13,c15]) qd5 rfl rfl (qac.own 0 rfl rfl)) fun a E=>bd hF fun r21 e22 hF=>qas E go_8 rfl (qfc N _ r7.1 ⟨_,_,rfl,h14,h16⟩ e22 hG ok) rfl rfl ?_
 rintro _ w ⟨⟨rfl,ok⟩,r23,r24⟩
 refine ⟨_,rfl,fun a E=>?_⟩
 refine mv E rfl fun a E=>lw E (qaF rfl rfl) fun a E=>lw E (qaF rfl rfl) fun a E=>av E rfl fun a E=>aw E rfl fun a E=>sg<|lv E ok (qaj (cs:=[c13,c15]) qd5 rfl rfl (qac.own 0 rfl rfl)) fun a E=>bd hF fun r25 e26 hF=>qas E go_9 rfl (qjX N _ r7.1 ⟨_,_,rfl,h14,h16⟩ e26 hG ok) rfl rfl ?_
 rintro _ w ⟨m27,c28,rfl,hle,ok,h29,r30⟩
 have le_m0:=le_m0.trans hle
 have hp_0:=(mL qaq).up hle hp_0
 have h14:=(mL mS).up hle h14
 have h16:=(mL mIns).up hle h16
 refine ⟨_,rfl,fun a E=>?_⟩
 refine mv E rfl fun a E=>lw E (qaF rfl rfl) fun a E=>lw E (qaF rfl rfl) fun a E=>av E rfl fun a E=>aw E rfl fun a E=>wp_seq<|sg<|mv E rfl fun a E=>lw E (qda rfl rfl) fun a E=>mv E rfl fun a E=>bu E 37 hF (fun c31 hF E=>?_) fun c31 hF E=>?_
 ·refine lsq E fun a E=>pt E rfl rfl fun a E=>mv E rfl fun a E=>lsq E fun a E=>pt E rfl rfl fun a E=>mv E rfl fun a E=>lsz E fun a E=>lsq E fun a E=>pt E rfl rfl fun a E=>wn<|c_if E rfl (fun _=>?_) (fun h=>by cases h)
  refine sg<|aw E rfl fun a E=>wp_ret<|qaf ?_
  exact fin hF ⟨(ok.drop).down hb0 le_m0,E.d,rz E rfl⟩
 refine mv E rfl fun a E=>lw E (qda rfl rfl) fun a E=>pf E rfl rfl fun a E=>mv E rfl fun a E=>bu E 41 hF (fun c32 hF E=>?_) fun c32 hF E=>?_
 ·refine lsq E fun a E=>pt E rfl rfl fun a E=>mv E rfl fun a E=>lsz E fun a E=>lsq E fun a E=>pt E rfl rfl fun a E=>wn<|c_if E rfl (fun _=>?_) (fun h=>by cases h)
  refine sg<|aw E rfl fun a E=>wp_ret<|qaf ?_
  exact fin hF ⟨(ok.drop).down hb0 le_m0,E.d,rz E rfl⟩
 refine mv E rfl fun a E=>lw E (qda rfl rfl) fun a E=>pf E rfl rfl fun a E=>mv E rfl fun a E=>bu E 45 hF (fun c33 hF E=>?_) fun c33 hF E=>?_
 ·refine lsz E fun a E=>lsq E fun a E=>pt E rfl rfl fun a E=>wn<|c_if E rfl (fun _=>?_) (fun h=>by cases h)
  refine sg<|aw E rfl fun a E=>wp_ret<|qaf ?_
  exact fin hF ⟨(ok.drop).down hb0 le_m0,E.d,rz E rfl⟩
 refine mv E rfl fun a E=>lv E ok (qax qdm h29 rfl) fun a E=>fk E ok qbF qbO rfl 0 rfl rfl fun a E=>lv E ok (qax qbp h16 rfl) fun a E=>lw E (qda rfl rfl) fun a E=>pf E rfl rfl fun a E=>wn<|cf E rfl hF (fun c34 hF=>?_) fun c34 hF=>?_
 ·refine sg<|aw E rfl fun a E=>wp_ret<|qaf ?_
  exact fin hF ⟨(ok.drop).down hb0 le_m0,E.d,rz E rfl⟩
 refine wp_skip<|qaa<|wp_seq<|sg<|aw E rfl fun a E=>wp_block<|bd hF fun o36 hL hF=>qaX _ (fun (s:Int) a w=>Ok u m27 ([(b17,oc 28 [c13,c15])] :: S) w ∧ Env 71 a [(3,vp b17),(7,c28),(9,vi s)] ∧ InR .i64 s) (fun (b:(Unit ⊕ Bool)) e a w=>(Sum.elim (fun b64=>e = (.exit 0) ∧ Ok u m27 ([(b17,oc 28 [c13,c15])] :: S) w ∧ Env 71 a []) (fun b65=>e = .ret ∧ qeH u m0 S b65 a w)) b) ?_ ?_ N _ a w hL ⟨ok,E.keep [3,7,9],(ir 0)⟩
 rotate_left
 ·intro e a w _ hO
  rcases o36 with o36 | o36
  rotate_left
  ·obtain ⟨rfl,hret⟩:=hO
   refine qam<|qaf ?_
   exact fin hF hret
  have hF:=qcl hF
  obtain ⟨rfl,ok,E⟩:=hO
  refine qba<|qaa<|sg<|aw E rfl fun a E=>wp_ret ?_
  exact fin hF ⟨(ok.drop).down hb0 le_m0,E.d,rz E rfl⟩
 rintro v38 a w r ⟨ok,E,r39⟩ hF
 replace hF:qa0 N r7 r25 v38 = some r:=hF
 unfold qa0 at hF
 refine wp_seq<|sg<|mz E rfl rfl fun a E=>lv E ok (qax qdm h29 rfl) fun a E=>lw E (qaJ rfl rfl) fun a E=>wn<|cg E rfl hF (fun c40 hF=>?_) fun c40 hF=>?_
 ·refine wp_exit<|qaO ?_
  cases hF
  exact so (sl ⟨rfl,⟨ok,E.keep []⟩⟩)
 refine wp_skip<|qaa<|wp_seq<|wp_block<|wp_seq<|qdB (by kernel_rfl) (by kernel_rfl) ok<|qv E (qal rfl) fun a E=>qv E (qal rfl) fun a E=>?_
 obtain ⟨x41,e42,hF⟩:=bnd hF
 obtain ⟨b43,o44,es45,hl46,rr47,at48,yy49⟩:=ia E 59 60 qdm h29 e42
 obtain rfl:=rr47
 refine qv E (yy49 _ _) fun a E=>qv E (qak qen rfl (qac.ro at48)) fun a E=>qv E (qad qbF rfl) fun a E=>qv E (qak qbO rfl (qac.own 0 rfl rfl)) fun a E=>qv E (qal rfl) fun a E=>?_
 obtain ⟨x50,e51,hF⟩:=bnd hF
 obtain ⟨b52,o53,es54,hl55,rr56,at57,yy58⟩:=ia E 64 65 qbp h16 e51
 obtain ⟨rfl,r59,r60,r61,l62⟩:=rr56
 refine qv E (yy58 _ _) fun a E=>qv E (qad qeB rfl) fun a E=>qv E (qak qat rfl (qac.ro (At.sub 0 1 at57))) fun a E=>qv E (qao rfl rfl) fun a E=>qv E (qqM Tryz.underlying4 rfl rfl) fun a E=>wpQuiet_nil ?_
 intro w ok
 refine qaa<|cg E rfl hF (fun c63 hF=>?_) fun c63 hF=>?_
 ·refine wp_skip<|qag<|qaa<|qab<|mv E rfl fun a E=>lw E (qau rfl rfl (InR.inc r39 (qae h29) c40)) fun a E=>av E rfl fun a E=>wpList_nil ?_
  cases hF
  exact qap ⟨ok,E.keep [3,7,9],(InR.inc r39 (qae h29) c40)⟩
 refine sg<|aw E rfl fun a E=>wp_ret<|qam<|qaf ?_
 cases hF
 exact so (sr ⟨rfl,⟨(ok.drop).down hb0 le_m0,E.d,rz E rfl⟩⟩)
end Go.Proofs.YtmghnmfefpeelaaGreatDoor
namespace Go.X
variable {H:Type} {enc:TypeId × Value → H}
end Go.X
namespace Go.X
open Go.ChangeShapes Go.RowKit
end Go.X
namespace Go.X
open Go.ChangeShapes Go.RowKit
end Go.X
namespace Go.X
open Go.ChangeShapes Go.RowKit
end Go.X
namespace Go.X
open Go.ChangeShapes Go.RowKit
structure Bulk (U:(H:Type) → DataW H → Nat) (UA:(H:Type) → List (DataW H) → Nat):Prop where
 str:∀ (H:Type) (b:List UInt8),U H (.lit (.string b)) = b.length + 1
 one:∀ (H:Type) (d:DataW H),1 ≤ U H d
 slice:∀ (H:Type) (e s:List (DataW H)),U H (.slice e s) = UA H e + UA H s + 1
 agg:∀ (H:Type) (p:List (DataW H)),U H (.agg p) = UA H p + 1
 nil:∀ (H:Type),UA H [] = 0
 cons:∀ (H:Type) (d:DataW H) (r:List (DataW H)),UA H (d :: r) = U H d + UA H r
structure OpnU {α:Type} (U:(H:Type) → DataW H → Nat) (n:Nat) (P:Program) (t:TypeId) (R:Rp α) (Q:α → Prop) (B:α → Nat):Prop where
 get:∀ {H:Type} {enc:TypeId × Value → H} {W:World} {base:Nat} {spare:Nat → Bool} {held:Bool} {fuel:Nat} {cs:List Value} {x:DataW H × List MemPlace},
  DataW.trod enc P W base spare held fuel t cs = some x → U H x.1 < n → ∃ a:α,R (hm W) cs a ∧ Q a ∧ B a ≤ U H x.1
section
variable {P:Program} {t:TypeId} {U:(H:Type) → DataW H → Nat} {UA:(H:Type) → List (DataW H) → Nat} {n:Nat}
theorem Bulk.part (hU:Bulk U UA) {H:Type}:∀ {l:List (DataW H)} {d:DataW H},d ∈ l → U H d ≤ UA H l
 | d0 :: l,d,h=>by
  rw [hU.cons]
  rcases List.mem_cons.1 h with rfl | h
  ·omega
  ·have:=hU.part h; omega
theorem Bulk.range (hU:Bulk U UA) {H:Type} {α:Type} {B:α → Nat} {D:Nat → DataW H}:∀ {k:Nat} {f:Fin k → α},(∀ i:Fin k,B (f i) ≤ U H (D i.1)) → ((List.ofFn f).map B).sum ≤ UA H ((List.range k).map D):=by
 intro k
 induction k generalizing D with
 | zero=>intro f h; simp [hU.nil]
 | succ k ih =>
  intro f h
  rw [List.ofFn_succ,List.range_succ_eq_map,List.map_cons,List.sum_cons,List.map_cons,hU.cons,List.map_map]
  have h0:=h 0
  have h1:=ih (D:=fun i=>D (i + 1)) (f:=fun i=>f i.succ) (fun i=>h i.succ)
  have e:D ∘ Nat.succ = fun i=>D (i + 1):=rfl
  rw [e]
  simp only [Fin.val_zero] at h0
  omega
theorem qrg (hU:Bulk U UA) {k:IntKind} (ht:P.underlying t = some (.int k)):OpnU U n P t (pI k) (InR k) (fun _=>1):=⟨fun h _=>by
 obtain ⟨a,ha⟩:=qq3 ht h
 exact ⟨a,ha,ha.2,hU.one _ _⟩⟩
theorem qlz (hU:Bulk U UA) (ht:P.underlying t = some .string):OpnU U n P t pS (fun _=>True) (fun s=>s.length + 1):=⟨fun h _=>by
 obtain ⟨s,rfl,rfl,hs⟩:=DataW.trod_string ht h
 refine ⟨s.data.toList,⟨rfl,hs⟩,trivial,?_⟩
 rw [hU.str]
 simp⟩
theorem qjt (hU:Bulk U UA) {α:Type} {e:TypeId} {k:Nat} {R:Rp α} {Q:α → Prop} {B:α → Nat} (ht:P.underlying t = some (.slice e)) (hc:P.cellsOf e = k) (hn:0 < k) (he:OpnU U n P e R Q B) :
  OpnU U (n + 1) P t (pL k R) (fun xs=>∀ y ∈ xs,Q y) (fun xs=>(xs.map B).sum + 1):=⟨fun {H enc W base spare held fuel cs x} h hz=>by
 rcases Go.Deep.open_slice ht h with ⟨rfl,rfl⟩ | ⟨a,len,cap,m,fu,D,Pl,rfl,_,hl,hm',hm2,rfl,hel⟩
 ·exact ⟨[],⟨none,0,rfl,Nat.le_refl _,Nat.zero_le _,Nat.zero_le _,fun h=>absurd rfl h⟩,(fun _ h=>by cases h),by simpa using hU.one _ _⟩
 ·rw [hc] at hel
  have hlm:len ≤ m:=by rw [hm2]; split <;> omega
  simp only [hU.slice] at hz ⊢
  have key:∀ i,i < len → ∃ y:α,(∃ es:List Value,es.length = k ∧ (∀ j v,es[j]? = some v → W.cell? (a.add (i * k + j)) = some v) ∧ R (hm W) es y) ∧ Q y ∧ B y ≤ U H (D i):=by
   intro i hi
   obtain ⟨cs',h1,h2⟩:=hel i (by omega)
   have hp:U H (D i) ≤ UA H ((List.range len).map D):=hU.part (List.mem_map.2 ⟨i,List.mem_range.2 hi,rfl⟩)
   obtain ⟨y,hy,hq,hb⟩:=he.get h2 (show U H (D i) < n by omega)
   obtain ⟨_,hlen,hcell⟩:=World.cells?_some h1
   refine ⟨y,⟨cs',hlen,fun j v hj=>?_,hy⟩,hq,hb⟩
   have hjn:j < k:=by rw [← hlen]; exact (List.getElem?_eq_some_iff.1 hj).1
   have:=hcell j hjn
   rw [hj] at this
   rw [qp2]
   exact this
  have pick:∃ f:Fin len → α,∀ i:Fin len,(∃ es:List Value,es.length = k ∧ (∀ j v,es[j]? = some v → W.cell? (a.add (i.1 * k + j)) = some v) ∧ R (hm W) es (f i)) ∧ Q (f i) ∧ B (f i) ≤ U H (D i.1) :=
   ⟨fun i=>(key i.1 i.2).choose,fun i=>(key i.1 i.2).choose_spec⟩
  obtain ⟨f,hf⟩:=pick
  refine ⟨List.ofFn f,⟨some a,cap,by rw [List.length_ofFn],by rw [List.length_ofFn]; exact hl,hm',?_,fun h0=>?_⟩,fun y hy=>?_,?_⟩
  ·rw [List.length_ofFn]; unfold maxLen at hm'; unfold LIMS; omega
  ·rw [List.length_ofFn] at h0
   obtain ⟨b,off,spot⟩:=a
   have hs:spot = none:=by
    obtain ⟨⟨es,e1,e2,_⟩,_⟩:=hf ⟨0,by omega⟩
    have hv:es[0]? = some (es[0]'(by omega)):=by simp
    have:=e2 0 _ hv
    simpa [Addr.add] using World.cell?_spot this
   subst hs
   refine ⟨b,off,rfl,fun i y hy=>?_⟩
   obtain ⟨hi,rfl⟩:=List.getElem?_eq_some_iff.1 hy
   have hi':i < len:=by simpa using hi
   obtain ⟨⟨es,e1,e2,e3⟩,_⟩:=hf ⟨i,hi'⟩
   refine ⟨es,e1,fun j v hj=>?_,by simpa using e3⟩
   have:=e2 j v hj
   refine qp8 ?_
   rw [qoR] at this
   rw [Nat.add_assoc]
   exact this
  ·obtain ⟨i,rfl⟩:=List.mem_ofFn.1 hy
   exact (hf i).2.1
  ·have:=hU.range (B:=B) (D:=D) (f:=f) (fun i=>(hf i).2.2)
   omega⟩
theorem ql5 (hU:Bulk U UA) {fs:Array Field} (ht:P.underlying t = some (.struct fs)) {H:Type} {enc:TypeId × Value → H} {W:World} {base:Nat} {spare:Nat → Bool} {held:Bool} {fuel:Nat} {cs:List Value} {x:DataW H × List MemPlace}
  (h:DataW.trod enc P W base spare held fuel t cs = some x) (hz:U H x.1 < n + 1) :
  cs.length = P.cellsOf t ∧ ∃ u:Nat → Nat,((List.range fs.size).map u).sum + 1 ≤ U H x.1 ∧ ∀ {α:Type} {R:Rp α} {Q:α → Prop} {B:α → Nat} (i:Nat) (f:Field) (k:Nat),fs[i]? = some f → P.cellsOf f.type = k → OpnU U n P f.type R Q B → ∃ a,R (hm W) ((cs.drop f.offset).take k) a ∧ Q a ∧ B a ≤ u i:=by
 obtain ⟨xs,m,_,rfl,hl,hlen,hf⟩:=DataW.trod_struct ht h
 simp only [hU.agg] at hz ⊢
 refine ⟨hl,fun i=>U H ((xs.map (·.1)).getD i .nil),?_,fun {α R Q B} i f k hi hk ho=>?_⟩
 ·have e:∀ (l:List (DataW H)),((List.range l.length).map fun i=>U H (l.getD i .nil)).sum = UA H l:=by
   intro l
   induction l with
   | nil=>simp [hU.nil]
   | cons d l ih =>
    rw [List.length_cons,List.range_succ_eq_map,List.map_cons,List.sum_cons,List.map_map,hU.cons]
    have:((fun i=>U H ((d :: l).getD i .nil)) ∘ Nat.succ) = fun i=>U H (l.getD i .nil):=by funext i; simp
    rw [this,ih]
    simp
  have:=e (xs.map (·.1))
  rw [List.length_map,hlen] at this
  omega
 ·have hi':i < xs.length:=by rw [hlen]; exact (Array.getElem?_eq_some_iff.1 hi).1
  have:=hf i f hi
  rw [List.getElem?_eq_getElem hi',hk] at this
  have hp:U H xs[i].1 ≤ UA H (xs.map (·.1)):=hU.part (List.mem_map.2 ⟨xs[i],List.getElem_mem hi',rfl⟩)
  obtain ⟨a,h1,h2,h3⟩:=ho.get this (by omega)
  refine ⟨a,h1,h2,?_⟩
  have e:(xs.map (·.1)).getD i .nil = xs[i].1:=by simp [List.getD,List.getElem?_eq_getElem hi']
  show B a ≤ U H ((xs.map (·.1)).getD i .nil)
  rw [e]
  exact h3
theorem OpnU.mono {α:Type} {m n:Nat} (hmn:m ≤ n) {R:Rp α} {Q:α → Prop} {B:α → Nat} (h:OpnU U n P t R Q B):OpnU U m P t R Q B:=⟨fun hx hz=>h.get hx (Nat.lt_of_lt_of_le hz hmn)⟩
end
end Go.X
namespace Go.X
open Go.ChangeShapes Go.RowKit
theorem qjP {H:Type} {enc:TypeId × Value → H} {C:Checked} {os:Os} {f:FuncId} {fn:Func} {s:OpenSpec} {conds:List PathCond} {apart:Bool} {laid:List (String × DataW Unit)} (modest:Bool) (w0:World) (args:Array Value) (hos:w0.os = os)
  (hsh:(w0.forCall (fun _ _=>0) ⟨#[],args,[]⟩).Shaped C.prog)
  (hok:Input.okWideB C.prog (w0.forCall (fun _ _=>0) ⟨#[],args,[]⟩) f ⟨#[],args,[]⟩ = true)
  (hrow:s.preRow enc C.prog fn conds apart laid (w0.forCall (fun _ _=>0) ⟨#[],args,[]⟩).memory args) :
  ∃ (w:World) (tape:Tape) (i:Input),w.os = os ∧ (w.forCall tape i).Shaped C.prog ∧ i.vars = [] ∧ Input.okWide C.prog (w.forCall tape i) .any w.heap.size f i ∧
   s.preRow enc C.prog fn conds apart laid (w.forCall tape i).memory i.args ∧ ({ modest:=modest }:Assume).holds C.prog (lone (Frame.enter C.prog f i.args .normal) [] (w.forCall tape i)) :=
 ⟨w0,fun _ _=>0,⟨#[],args,[]⟩,hos,hsh,(Input.okWide_of_okWideB (base:=0) hok).1,(Input.okWide_of_okWideB hok).2,hrow,by
  simp only [Assume.holds]
  exact ⟨by simp,by simp,fun _=>Modest.zero,by simp,by simp⟩⟩
end Go.X
namespace Go.X
def scan (p:List UInt8 → Bool):List UInt8 → Nat
 | []=>0
 | b :: l=>if p (b :: l) then 0 else scan p l + 1
theorem qju (p:List UInt8 → Bool):∀ l,scan p l ≤ l.length
 | []=>Nat.le_refl _
 | b :: l=>by unfold scan; split; exact Nat.zero_le _; have:=qju p l; simp only [List.length_cons]; omega
theorem qld {body:Int → Option (Int ⊕ Int)} (p:List UInt8 → Bool) (s:List UInt8) (h:∀ k:Nat,k ≤ s.length → body k = if k < s.length ∧ p (s.drop k) = false then some (.inl ((k:Int) + 1)) else some (.inr k)) :
  ∀ N,s.length < N → iter body N 0 = some (scan p s:Int):=by
 have key:∀ j k N,k + j = s.length → j < N → iter body N (k:Int) = some ((k + scan p (s.drop k):Nat):Int):=by
  intro j
  induction j with
  | zero =>
   intro k N hk hN
   obtain ⟨N,rfl⟩:∃ M,N = M + 1:=⟨N - 1,by omega⟩
   have e:s.drop k = []:=List.drop_eq_nil_of_le (by omega)
   rw [iter,h k (by omega),if_neg (by omega),e]
   rfl
  | succ j ih =>
   intro k N hk hN
   obtain ⟨N,rfl⟩:∃ M,N = M + 1:=⟨N - 1,by omega⟩
   have hlt:k < s.length:=by omega
   have e:s.drop k = s[k] :: s.drop (k + 1):=List.drop_eq_getElem_cons hlt
   rw [iter,h k (by omega)]
   by_cases hp:p (s.drop k) = false
   ·rw [if_pos ⟨hlt,hp⟩]
    simp only
    have:=ih (k + 1) N (by omega) (by omega)
    rw [show ((k:Int) + 1) = ((k + 1:Nat):Int) by omega,this,e]
    rw [e] at hp
    simp only [scan,hp]
    congr 1
    simp only [Bool.false_eq_true,if_false]
    omega
   ·rw [if_neg (fun x=>hp x.2)]
    have hp2:=eq_true_of_ne_false hp
    rw [e] at hp2
    show some (k:Int) = _
    rw [e,scan,if_pos hp2]
    rfl
 intro N hN
 have:=key s.length 0 N (by omega) hN
 simpa using this
theorem qfr {body:Int → Option (Int ⊕ (Unit ⊕ Bool))} (p:UInt8 → Bool) (v:Bool) (s:List UInt8) (h1:∀ (k:Nat) c,s[k]? = some c → body k = if p c then some (.inl ((k:Int) + 1)) else some (.inr (.inr v))) (h2:body s.length = some (.inr (.inl ()))) :
  ∀ N,s.length < N → iter body N 0 = some (if s.all p then .inl () else .inr v):=by
 have key:∀ j k N,k + j = s.length → j < N → iter body N (k:Int) = some (if (s.drop k).all p then .inl () else .inr v):=by
  intro j
  induction j with
  | zero =>
   intro k N hk hN
   obtain ⟨N,rfl⟩:∃ M,N = M + 1:=⟨N - 1,by omega⟩
   have e:s.drop k = []:=List.drop_eq_nil_of_le (by omega)
   obtain rfl:k = s.length:=by omega
   simp only [iter,h2,e]
   rfl
  | succ j ih =>
   intro k N hk hN
   obtain ⟨N,rfl⟩:∃ M,N = M + 1:=⟨N - 1,by omega⟩
   have hlt:k < s.length:=by omega
   have e:s.drop k = s[k] :: s.drop (k + 1):=List.drop_eq_getElem_cons hlt
   rw [iter,h1 k _ (List.getElem?_eq_getElem hlt),e,List.all_cons]
   cases hp:p s[k] with
   | false=>simp
   | true =>
    simp only [if_true,Bool.true_and]
    rw [show ((k:Int) + 1) = ((k + 1:Nat):Int) by omega]
    exact ih (k + 1) N (by omega) (by omega)
 intro N hN
 have:=key s.length 0 N (by omega) hN
 simpa using this
theorem qjU {α:Type} {xs:List α} {a b:Nat} (h1:a ≤ b) (h2:b ≤ xs.length):slc xs (a:Int) (b:Int) = some ((xs.drop a).take (b - a)):=by
 unfold slc
 rw [if_pos (by omega)]
 congr 2
 omega
theorem qoX {α:Type} {xs:List α} {b:Nat} (h:b ≤ xs.length):slc xs 0 (b:Int) = some (xs.take b):=by
 have:=qjU (xs:=xs) (Nat.zero_le b) h
 simpa using this
theorem qjO {α:Type} {xs:List α} {a:Nat} (h:a ≤ xs.length):slc xs (a:Int) (xs.length:Int) = some (xs.drop a):=by
 rw [qjU h (Nat.le_refl _),List.take_of_length_le (by simp)]
theorem qbc {α:Type} {xs:List α} {k:Nat} {c:α} (h:xs[k]? = some c):idx xs (k:Int) = some c:=by
 unfold idx; rw [if_pos (by omega)]; simpa using h
theorem qjn {z:Int} (h1:-1000000 ≤ z) (h2:z ≤ 1000000):IntKind.wrap .i64 z = z:=qhZ (qhI.2 ⟨by omega,by omega⟩)
theorem qp7 (l:List UInt8):(l == []) = decide (l = []):=by cases l <;> rfl
def fnd (sub:List UInt8) (s:List UInt8):Nat:=scan (fun l=>sub.isPrefixOf l) s
theorem qoP (sub:List UInt8) (b:UInt8) (l:List UInt8):fnd sub (b :: l) = if sub.isPrefixOf (b :: l) then 0 else fnd sub l + 1:=rfl
theorem qlg {sub:List UInt8} (h:sub ≠ []):∀ s,Lib.index s sub = if fnd sub s < s.length then (fnd sub s:Int) else -1
 | []=>by
  cases sub with
  | nil=>exact absurd rfl h
  | cons a t=>rfl
 | b :: l=>by
  have ih:=qlg h l
  rw [qoP]
  unfold Lib.index
  cases hp:sub.isPrefixOf (b :: l) with
  | true=>simp
  | false =>
   rw [ih]
   simp only [Bool.false_eq_true,if_false,List.length_cons]
   by_cases h1:fnd sub l < l.length
   ·rw [if_pos h1,if_pos (show fnd sub l + 1 < l.length + 1 by omega),if_neg (by rw [beq_iff_eq]; omega)]
    rfl
   ·rw [if_neg h1,if_neg (show ¬ fnd sub l + 1 < l.length + 1 by omega)]
    rfl
theorem qpY {sub s:List UInt8} (h:sub ≠ []):Lib.cut s sub = if fnd sub s < s.length then (s.take (fnd sub s),s.drop (fnd sub s + sub.length),true) else (s,[],false):=by
 unfold Lib.cut
 rw [qlg h]
 by_cases h1:fnd sub s < s.length
 ·simp only [if_pos h1]
  rw [if_pos (by omega)]
  simp
 ·simp only [if_neg h1]
  rw [if_neg (by decide)]
theorem qqV {a b:List UInt8} (h:a.length + b.length ≤ LIMS):cat a b = some (a ++ b):=by unfold cat; rw [if_pos h]
end Go.X
namespace Go.X
def run {σ α β:Type} (f:σ → α → σ ⊕ β) (fin:σ → β):σ → List α → β
 | s,[]=>fin s
 | s,x :: xs=>match f s x with
  | .inl s'=>run f fin s' xs
  | .inr b=>b
theorem qgo {σ τ α β:Type} {body:τ → Option (τ ⊕ β)} (mkS:σ → Int → τ) (xs:List α) (f:σ → α → σ ⊕ β) (fin:σ → β) (I:Nat → σ → Prop)
  (h1:∀ s (k:Nat) x,xs[k]? = some x → I k s → body (mkS s k) = some (match f s x with | .inl s'=>.inl (mkS s' ((k:Int) + 1)) | .inr b=>.inr b) ∧ ∀ s',f s x = .inl s' → I (k + 1) s')
  (h2:∀ s,I xs.length s → body (mkS s xs.length) = some (.inr (fin s))) :
  ∀ N s,xs.length < N → I 0 s → iter body N (mkS s 0) = some (run f fin s xs):=by
 have key:∀ j k N s,k + j = xs.length → j < N → I k s → iter body N (mkS s (k:Int)) = some (run f fin s (xs.drop k)):=by
  intro j
  induction j with
  | zero =>
   intro k N s hk hN hI
   obtain ⟨N,rfl⟩:∃ M,N = M + 1:=⟨N - 1,by omega⟩
   have e:xs.drop k = []:=List.drop_eq_nil_of_le (by omega)
   obtain rfl:k = xs.length:=by omega
   rw [iter,h2 s hI,e]; rfl
  | succ j ih =>
   intro k N s hk hN hI
   obtain ⟨N,rfl⟩:∃ M,N = M + 1:=⟨N - 1,by omega⟩
   have hlt:k < xs.length:=by omega
   have e:xs.drop k = xs[k] :: xs.drop (k + 1):=List.drop_eq_getElem_cons hlt
   obtain ⟨h3,h4⟩:=h1 s k _ (List.getElem?_eq_getElem hlt) hI
   rw [iter,h3,e]
   simp only [run]
   cases hf:f s xs[k] with
   | inl s' =>
    simp only
    rw [show ((k:Int) + 1) = ((k + 1:Nat):Int) by omega]
    exact ih (k + 1) N s' (by omega) (by omega) (h4 s' hf)
   | inr b=>rfl
 intro N s hN hI
 have:=key xs.length 0 N s (by omega) hN hI
 simpa using this
theorem qnC {σ τ α β:Type} {body:τ → Option (τ ⊕ β)} (mkS:σ → Int → τ) (xs:List α) (f:σ → α → σ ⊕ β) (fin:σ → β)
  (h1:∀ s (k:Nat) x,xs[k]? = some x → body (mkS s k) = some (match f s x with | .inl s'=>.inl (mkS s' ((k:Int) + 1)) | .inr b=>.inr b))
  (h2:∀ s,body (mkS s xs.length) = some (.inr (fin s))) (N:Nat) (s:σ) (hN:xs.length < N):iter body N (mkS s 0) = some (run f fin s xs) :=
 qgo mkS xs f fin (fun _ _=>True) (fun s k x hx _=>⟨h1 s k x hx,fun _ _=>trivial⟩) (fun s _=>h2 s) N s hN trivial
theorem qnV {α:Type} {body:Int → Option (Int ⊕ (Unit ⊕ Int))} (xs:List α) (p:α → Bool)
  (h1:∀ (k:Nat) x,xs[k]? = some x → body k = some (if p x then .inr (.inr k) else .inl ((k:Int) + 1))) (h2:body xs.length = some (.inr (.inl ()))) (N:Nat) (hN:xs.length < N) :
  iter body N 0 = some (match xs.findIdx? p with | some k=>.inr (k:Int) | none=>.inl ()):=by
 have key:∀ j k N,k + j = xs.length → j < N → iter body N (k:Int) = some (match (xs.drop k).findIdx? p with | some i=>.inr ((k + i:Nat):Int) | none=>.inl ()):=by
  intro j
  induction j with
  | zero =>
   intro k N hk hN
   obtain ⟨N,rfl⟩:∃ M,N = M + 1:=⟨N - 1,by omega⟩
   have e:xs.drop k = []:=List.drop_eq_nil_of_le (by omega)
   obtain rfl:k = xs.length:=by omega
   rw [iter,h2,e]; rfl
  | succ j ih =>
   intro k N hk hN
   obtain ⟨N,rfl⟩:∃ M,N = M + 1:=⟨N - 1,by omega⟩
   have hlt:k < xs.length:=by omega
   have e:xs.drop k = xs[k] :: xs.drop (k + 1):=List.drop_eq_getElem_cons hlt
   rw [iter,h1 k _ (List.getElem?_eq_getElem hlt),e,List.findIdx?_cons]
   cases hp:p xs[k] with
   | true=>simp
   | false =>
    simp only [Bool.false_eq_true,if_false]
    rw [show ((k:Int) + 1) = ((k + 1:Nat):Int) by omega,ih (k + 1) N (by omega) (by omega)]
    cases (xs.drop (k + 1)).findIdx? p with
    | none=>rfl
    | some i=>simp only [Option.map_some]; congr 3; omega
 have:=key xs.length 0 N (by omega) hN
 simpa using this
theorem qoT {α:Type} (xs:List α) (p:α → Bool):((some (match xs.findIdx? p with | some k=>Sum.inr (k:Int) | none=>Sum.inl ()):Option (Unit ⊕ Int)).bind fun o=>Sum.elim (fun _=>some (-1)) (fun o=>some o) o) = some (match xs.findIdx? p with | some k=>(k:Int) | none=>-1):=by
 cases xs.findIdx? p <;> rfl
theorem qpE {α:Type} (xs:List α) (p:α → Bool):decide ((match xs.findIdx? p with | some k=>(k:Int) | none=>-1) ≥ 0) = xs.any p:=by
 cases h:xs.findIdx? p with
 | none =>
  have:xs.any p = false:=by
   rw [List.any_eq_false]; intro x hx
   have:=List.findIdx?_eq_none_iff.1 h x hx
   simp [this]
  rw [this]; rfl
 | some k =>
  have:xs.any p = true:=by
   obtain ⟨x,hx,hp⟩:=List.findIdx?_eq_some_iff_getElem.1 h
   exact List.any_eq_true.2 ⟨_,List.getElem_mem x,by first | exact hx | exact hp.1 | exact hp⟩
  rw [this]
  simp
theorem qnQ {α:Type} {body:Int → Option (Int ⊕ (Unit ⊕ Bool))} (p:α → Bool) (xs:List α) (h1:∀ (k:Nat) x,xs[k]? = some x → body k = some (if p x then .inr (.inr true) else .inl ((k:Int) + 1))) (h2:body xs.length = some (.inr (.inl ()))) (N:Nat) (hN:xs.length < N) :
  iter body N 0 = some (if xs.any p then .inr true else .inl ()):=by
 have e:∀ xs:List α,run (σ:=Unit) (β:=Unit ⊕ Bool) (fun _ x=>if p x then .inr (.inr true) else .inl ()) (fun _=>.inl ()) () xs = if xs.any p then .inr true else .inl ():=by
  intro xs
  induction xs with
  | nil=>rfl
  | cons x xs ih =>
   unfold run
   cases h:p x with
   | true=>simp [h]
   | false=>simp only [Bool.false_eq_true,if_false,ih,List.any_cons,h,Bool.false_or]
 rw [← e xs]
 refine qnC (σ:=Unit) (fun _ k=>k) xs _ _ (fun _ k x hx=>?_) (fun _=>h2) N () hN
 rw [h1 k x hx]
 cases p x <;> rfl
theorem dlt {k n:Nat} (h:k < n):decide ((k:Int) < (n:Int)) = true:=decide_eq_true (by omega)
theorem dnlt {n:Nat}:decide ((n:Int) < (n:Int)) = false:=decide_eq_false (by omega)
theorem qif {α:Type} {xs:List α} {k:Nat} {x:α} (h:xs[k]? = some x):k < xs.length:=(List.getElem?_eq_some_iff.1 h).1
theorem dltx {α:Type} {xs:List α} {k:Nat} {x:α} (h:xs[k]? = some x):decide ((k:Int) < (xs.length:Int)) = true:=dlt (qif h)
end Go.X
namespace Go.Proofs.YtmghnmfefpeelaaGreatDoor
open Go.X
def dgt (c:UInt8):Bool:=decide (48 ≤ c.toNat) && decide (c.toNat ≤ 57)
def zr (c:UInt8):Bool:=c == 48
theorem qiy {α:Type} (p:α → Bool):∀ l:List α,l.dropWhile p = [] ↔ ∀ x ∈ l,p x = true
 | []=>by simp
 | b :: l=>by
  have ih:=qiy p l
  cases h:p b with
  | true=>simp [h,ih]
  | false=>simp [h]
theorem qmk (l cs:List UInt8):(Lib.trimS l cs == []) = l.all (cs.contains ·):=by
 have h:Lib.trimS l cs = [] ↔ ∀ x ∈ l,cs.contains x = true:=by
  unfold Lib.trimS Lib.trimLeftS Lib.trimRightS
  rw [qiy]
  constructor
  ·intro h x hx
   have e:=List.takeWhile_append_dropWhile (p:=fun b=>cs.contains b) (l:=l.reverse)
   have hx':x ∈ l.reverse:=List.mem_reverse.2 hx
   rw [← e] at hx'
   rcases List.mem_append.1 hx' with h1 | h1
   ·exact List.all_eq_true.1 List.all_takeWhile x h1
   ·exact h x (List.mem_reverse.2 h1)
  ·intro h x hx
   refine h x ?_
   have:=List.mem_reverse.1 hx
   exact List.mem_reverse.1 ((List.dropWhile_sublist _).mem this)
 rw [qp7,Bool.eq_iff_iff]
 simp only [decide_eq_true_eq,List.all_eq_true]
 exact h
theorem qmi (c:UInt8):([48,49,50,51,52,53,54,55,56,57]:List UInt8).contains c = dgt c:=by
 have h:∀ n,n < 256 → ([48,49,50,51,52,53,54,55,56,57]:List UInt8).contains (UInt8.ofNat n) = dgt (UInt8.ofNat n):=by decide +kernel
 have:=h c.toNat c.toNat_lt
 simpa using this
theorem qjC (N:Nat) (s:List UInt8):qcE N s = some (s.all dgt):=by
 unfold qcE qd3
 rw [if_pos ⟨by decide,by decide⟩]
 simp only [Option.bind_some,qmk]
 congr 2
 funext c
 exact qmi c
theorem qkl (N:Nat) (s:List UInt8):qez N s = some (s.all zr):=by
 unfold qez qd3
 rw [if_pos ⟨by decide,by decide⟩]
 simp only [Option.bind_some,qmk]
 congr 2
 funext c
 simp [zr]
 rfl
theorem qiz {N:Nat} {s:List UInt8} (hN:s.length < N):qc2 N s = some (s.all dgt):=by
 unfold qc2
 rw [qfr dgt false s (fun k c hk=>?_) ?_ N hN]
 ·cases s.all dgt <;> rfl
 ·unfold qc4
  simp
 ·have hlt:=(List.getElem?_eq_some_iff.1 hk).1
  unfold qc4
  simp only [qbc hk,Option.bind_some,show decide ((k:Int) < (s.length:Int)) = true from decide_eq_true (by omega),cond_true]
  unfold dgt
  by_cases h1:(c.toNat:Int) < 48
  ·simp only [decide_eq_true h1,cond_true]
   rw [if_neg]
   simp; omega
  ·simp only [decide_eq_false h1,cond_false]
   by_cases h2:(c.toNat:Int) > 57
   ·simp only [decide_eq_true h2,cond_true]
    rw [if_neg]
    simp; omega
   ·simp only [decide_eq_false h2,cond_false]
    rw [if_pos]
    simp; omega
theorem qmt {N:Nat} {s:List UInt8} (hN:s.length < N):qcx N s = some (s.all zr):=by
 unfold qcx
 rw [qfr zr false s (fun k c hk=>?_) ?_ N hN]
 ·cases s.all zr <;> rfl
 ·unfold qds
  simp
 ·have hlt:=(List.getElem?_eq_some_iff.1 hk).1
  unfold qds
  simp only [qbc hk,Option.bind_some,show decide ((k:Int) < (s.length:Int)) = true from decide_eq_true (by omega),cond_true]
  unfold zr
  by_cases h1:c = 48
  ·subst h1; rfl
  ·have:((c.toNat:Int) != 48) = true:=by
    rw [bne_iff_ne]
    intro e
    exact h1 (UInt8.toNat_inj.1 (by show c.toNat = 48; omega))
   simp [this,h1]
def neg (s:List UInt8):Bool:=([45]:List UInt8).isPrefixOf s
def bod (s:List UInt8):List UInt8:=if neg s then s.drop 1 else s
def pt (s:List UInt8):Bool:=decide (fnd [46] (bod s) < (bod s).length)
def wh (s:List UInt8):List UInt8:=(bod s).take (fnd [46] (bod s))
def fr (s:List UInt8):List UInt8:=if pt s then (bod s).drop (fnd [46] (bod s) + 1) else []
def vld (s:List UInt8):Bool :=
 !(decide (((wh s).length:Int) < 1)) && (!(decide (((wh s).length:Int) > 15)) && ((wh s).all dgt && (!(decide (((wh s).length:Int) > 1) && (((wh s).getD 0 0).toNat:Int) == 48) &&
 (!(pt s && (((fr s).length:Int) == 0)) && (!(decide (((fr s).length:Int) > 6)) && ((fr s).all dgt && !(neg s && ((wh s).all zr && (fr s).all zr))))))))
theorem qjq (s:List UInt8):(bod s).length ≤ s.length:=by unfold bod; split <;> simp
theorem qqL (s:List UInt8):(wh s).length ≤ s.length:=by have:=qjq s; unfold wh; rw [List.length_take]; omega
theorem qoE {N:Nat} {s:List UInt8} (hs:s.length ≤ 2000000):(strings_CutPrefix N s [45]).bind (fun r=>(strings_Cut N r.1 [46]).bind fun q=>some (r.2,q)) = some (neg s,wh s,fr s,pt s):=by
 have hl:=qjq s
 unfold strings_CutPrefix strings_Cut
 have e:Lib.trimPrefix s [45] = bod s:=rfl
 have e2:Lib.hasPrefix s [45] = neg s:=rfl
 rw [e,e2]
 simp only [Option.bind_some]
 rw [if_pos (by omega),qpY (by decide)]
 simp only [Option.bind_some]
 unfold wh fr pt
 by_cases h1:fnd [46] (bod s) < (bod s).length
 ·simp [h1]
 ·have:fnd [46] (bod s) = (bod s).length:=by have:=qju (fun l=>([46]:List UInt8).isPrefixOf l) (bod s); unfold fnd at h1 ⊢; omega
  simp [this]
theorem qla {N:Nat} {s:List UInt8}:strings_CutPrefix N s [45] = some (bod s,neg s):=rfl
theorem qn2 {N:Nat} {s:List UInt8} (hs:s.length ≤ 2000000):strings_Cut N (bod s) [46] = some (wh s,fr s,pt s):=by
 have:=qoE (N:=N) hs
 rw [qla] at this
 simp only [Option.bind_some] at this
 cases h:strings_Cut N (bod s) [46] with
 | none=>rw [h] at this; cases this
 | some q=>rw [h] at this; simp only [Option.bind_some,Option.some.injEq,Prod.mk.injEq,true_and] at this; obtain ⟨rfl⟩:=this; rfl
theorem qjW {N:Nat} {s:List UInt8} (hs:s.length ≤ 2000000):qeO N s = some (Number.mk (neg s) (wh s) (fr s),vld s):=by
 unfold qeO
 rw [qla]
 simp only [Option.bind_some]
 rw [qn2 hs]
 simp only [Option.bind_some,qjC,qch,qkl]
 unfold vld
 generalize pt s = b5
 generalize neg s = b9
 generalize fr s = f
 generalize hw:wh s = w
 cases w with
 | nil=>rfl
 | cons c t =>
  have hi:idx (c :: t) 0 = some c:=rfl
  have hg:(c :: t).getD 0 0 = c:=rfl
  simp only [hi,hg,Option.bind_some]
  generalize decide ((((c :: t).length:Nat):Int) < 1) = b1
  generalize decide ((((c :: t).length:Nat):Int) > 15) = b2
  generalize decide ((((c :: t).length:Nat):Int) > 1) = b4
  generalize ((c.toNat:Int) == 48) = b3
  generalize ((f.length:Int) == 0) = b6
  generalize decide ((f.length:Int) > 6) = b7
  generalize (c :: t).all dgt = d1
  generalize f.all dgt = d2
  generalize (c :: t).all zr = z1
  generalize f.all zr = z2
  cases b1 <;> cases b2 <;> cases d1 <;> cases b4 <;> cases b3 <;> try rfl
  all_goals cases b5 <;> cases b6 <;> cases b7 <;> cases d2 <;> try rfl
  all_goals cases b9 <;> cases z1 <;> cases z2 <;> rfl
theorem qql (s:List UInt8):(wh s).length + (fr s).length ≤ s.length:=by
 have:=qjq s
 have:=qju (fun l=>([46]:List UInt8).isPrefixOf l) (bod s)
 unfold wh fr fnd
 rw [List.length_take]
 split
 ·rw [List.length_drop]; omega
 ·simp only [List.length_nil]; omega
theorem qlq {N:Nat} {s:List UInt8} (hs:s.length ≤ LIMS) (hN:s.length + 1000 ≤ N):qdi N s = some (if vld s then Number2.mk (neg s) (wh s) (fr s) else Number2.mk false [] [],vld s):=by
 unfold qdi
 cases s with
 | nil =>
  simp only [List.length_nil,show decide (((0:Nat):Int) > 0) = false from rfl,cond_false]
  rw [qld (fun l=>([46]:List UInt8).isPrefixOf l) [] (fun k hk=>by simp only [List.length_nil,Nat.le_zero] at hk; subst hk; rfl) N (by simp; omega)]
  have e:∀ x:Option Bool,(x.bind fun r97=>bif !r97 then some (Number2.mk false [] [],false) else some (Number2.mk false [] [],false)) = x.bind fun _=>some (Number2.mk false [] [],false):=fun x=>by cases x <;> simp
  simp only [Option.bind_some,scan]
  rw [show slc ([]:List UInt8) 0 ((0:Nat):Int) = some [] from rfl]
  simp only [Option.bind_some,List.length_nil,show decide (((0:Nat):Int) < ((0:Nat):Int)) = false from rfl,cond_false,Sum.elim_inl]
  rw [show cat [] [] = some [] from rfl]
  simp only [Option.bind_some]
  rw [qiz (by simp; omega)]
  rfl
 | cons c t =>
  simp only [List.length_cons] at hs
  simp only [List.length_cons,show decide (((t.length + 1:Nat):Int) > 0) = true from decide_eq_true (by omega),cond_true]
  have hi:idx (c :: t) 0 = some c:=rfl
  simp only [hi,Option.bind_some]
  have hnb:(bif ((c.toNat:Int) == 45) then ((slc (c :: t) 1 ((t.length + 1:Nat):Int)).bind fun s15=>some (s15,Number2.mk true [] [])).bind fun o11=>some (o11.1,o11.2) else some (c :: t,Number2.mk false [] [])) = some (bod (c :: t),Number2.mk (neg (c :: t)) [] []):=by
   have hneg:neg (c :: t) = ((c.toNat:Int) == 45):=by
    unfold neg
    by_cases h:c = 45
    ·subst h; rfl
    ·have:((c.toNat:Int) == 45) = false:=by
      rw [beq_eq_false_iff_ne]; intro e
      exact h (UInt8.toNat_inj.1 (by show c.toNat = 45; omega))
     rw [this]
     simp [List.isPrefixOf,Ne.symm h]
   unfold bod
   rw [hneg]
   cases ((c.toNat:Int) == 45) with
   | false=>rfl
   | true =>
    have:=qjO (xs:=c :: t) (a:=1) (by simp)
    simp only [List.length_cons] at this
    rw [show ((1:Nat):Int) = 1 from rfl] at this
    simp only [cond_true,this,Option.bind_some,if_true]
  rw [hnb]
  simp only [Option.bind_some]
  have hbl:=qjq (c :: t)
  have hwl:=qqL (c :: t)
  have hfl:=qql (c :: t)
  simp only [List.length_cons] at hbl hwl hfl hN
  rw [qld (fun l=>([46]:List UInt8).isPrefixOf l) (bod (c :: t)) (fun k hk=>?_) N (by omega)]
  rotate_left
  ·unfold qdY
   by_cases hlt:k < (bod (c :: t)).length
   ·simp only [show decide ((k:Int) < ((bod (c :: t)).length:Int)) = true from decide_eq_true (by omega),cond_true,qbc (List.getElem?_eq_getElem hlt),Option.bind_some]
    rw [List.drop_eq_getElem_cons hlt]
    by_cases h:(bod (c :: t))[k] = 46
    ·rw [if_neg (by rw [h]; simp [List.isPrefixOf]),h]
     rfl
    ·have:(((bod (c :: t))[k].toNat:Int) != 46) = true:=by
      rw [bne_iff_ne]; intro e
      exact h (UInt8.toNat_inj.1 (by show (bod (c :: t))[k].toNat = 46; omega))
     rw [if_pos ⟨hlt,by simp [List.isPrefixOf,Ne.symm h]⟩,this]
     rfl
   ·simp only [show decide ((k:Int) < ((bod (c :: t)).length:Int)) = false from decide_eq_false (by omega),cond_false]
    rw [if_neg (by omega)]
  have hsl:=qju (fun l=>([46]:List UInt8).isPrefixOf l) (bod (c :: t))
  simp only [Option.bind_some]
  rw [qoX hsl]
  simp only [Option.bind_some]
  have hw0:List.take (scan (fun l=>([46]:List UInt8).isPrefixOf l) (bod (c :: t))) (bod (c :: t)) = wh (c :: t):=rfl
  have hp0:decide (((scan (fun l=>([46]:List UInt8).isPrefixOf l) (bod (c :: t)):Nat):Int) < ((bod (c :: t)).length:Int)) = pt (c :: t):=by
   unfold pt fnd
   simp only [Int.ofNat_lt]
  rw [hw0,hp0]
  have hf0:pt (c :: t) = true → slc (bod (c :: t)) (((scan (fun l=>([46]:List UInt8).isPrefixOf l) (bod (c :: t)):Nat):Int) + 1) ((bod (c :: t)).length:Int) = some (fr (c :: t)):=by
   intro h
   have h':=h
   unfold pt at h'
   have h2:=of_decide_eq_true h'
   unfold fr
   rw [if_pos h]
   have:=qjO (xs:=bod (c :: t)) (a:=fnd [46] (bod (c :: t)) + 1) h2
   unfold fnd at this ⊢
   simpa using this
  have hf1:pt (c :: t) = false → fr (c :: t) = []:=fun h=>by unfold fr; rw [if_neg (by rw [h]; simp)]
  unfold vld
  generalize hpt:pt (c :: t) = b5 at *
  generalize neg (c :: t) = b9
  generalize fr (c :: t) = f at *
  have hcat:=qqV (a:=wh (c :: t)) (b:=f) (by omega)
  have hall:(wh (c :: t) ++ f).length < N:=by rw [List.length_append]; omega
  have hdg:=qiz hall
  have hzz:=qmt hall
  rw [List.all_append] at hdg hzz
  generalize hw:wh (c :: t) = w at *
  cases b5 with
  | false =>
   have hf:=hf1 rfl
   subst hf
   simp only [cond_false,Option.bind_some,Sum.elim_inl,hcat,hdg,hzz]
   cases w with
   | nil=>rfl
   | cons a r =>
    have hi:idx (a :: r) 0 = some a:=rfl
    have hg:(a :: r).getD 0 0 = a:=rfl
    simp only [hi,hg,Option.bind_some]
    generalize decide ((((a :: r).length:Nat):Int) < 1) = b1
    generalize decide ((((a :: r).length:Nat):Int) > 15) = b2
    generalize decide ((((a :: r).length:Nat):Int) > 1) = b4
    generalize ((a.toNat:Int) == 48) = b3
    generalize (a :: r).all dgt = d1
    generalize (a :: r).all zr = z1
    cases b1 <;> cases b2 <;> cases d1 <;> cases b4 <;> cases b3 <;> cases b9 <;> cases z1 <;> rfl
  | true =>
   simp only [cond_true,hf0 rfl,Option.bind_some]
   cases hb6:((f.length:Int) == 0) with
   | true =>
    simp only [cond_true,Option.bind_some,Sum.elim_inr]
    simp
   | false =>
    simp only [cond_false,Option.bind_some,Sum.elim_inl,hcat,hdg,hzz]
    cases w with
    | nil=>cases f.all dgt <;> rfl
    | cons a r =>
     have hi:idx (a :: r) 0 = some a:=rfl
     have hg:(a :: r).getD 0 0 = a:=rfl
     simp only [hi,hg,Option.bind_some]
     generalize decide ((((a :: r).length:Nat):Int) < 1) = b1
     generalize decide ((((a :: r).length:Nat):Int) > 15) = b2
     generalize decide ((((a :: r).length:Nat):Int) > 1) = b4
     generalize ((a.toNat:Int) == 48) = b3
     generalize decide ((f.length:Int) > 6) = b7
     generalize (a :: r).all dgt = d1
     generalize f.all dgt = d2
     generalize (a :: r).all zr = z1
     generalize f.all zr = z2
     cases b1 <;> cases b2 <;> cases d1 <;> cases d2 <;> cases b4 <;> cases b3 <;> try rfl
     all_goals cases b7 <;> cases b9 <;> cases z1 <;> cases z2 <;> rfl
theorem qlP {N:Nat} {s:List UInt8} (hs:s.length ≤ 2000000) (hN:2003000 ≤ N):qdi N s = some (if vld s then Number2.mk (neg s) (wh s) (fr s) else Number2.mk false [] [],vld s):=qlq (by unfold LIMS; omega) (by omega)
theorem qgX {N:Nat} {s:List UInt8} (hs:s.length ≤ 2000000):qdk N s = some (vld s):=by
 unfold qdk; rw [qjW hs]; rfl
theorem qml {N:Nat} {s:List UInt8} (hs:s.length ≤ 2000000) (hN:2003000 ≤ N):qdQ N s = some (vld s):=by
 unfold qdQ; rw [qlP hs hN]; rfl
end Go.Proofs.YtmghnmfefpeelaaGreatDoor
namespace Go.Proofs.YtmghnmfefpeelaaGreatDoor
open Go.X
abbrev Str:=List UInt8
def lwr (c:UInt8):Bool:=decide (97 ≤ c.toNat) && decide (c.toNat ≤ 122)
def ltr (c:UInt8):Bool:=lwr c || (decide (65 ≤ c.toNat) && decide (c.toNat ≤ 90))
def inn (c:UInt8):Bool:=ltr c || dgt c || c == 95 || c == 45
def hdl:Str → Bool
 | []=>false
 | c :: _=>lwr c
def nam (s:Str):Bool:=decide (s.length ≤ 40) && (hdl s && s.all inn)
theorem qfd {P:UInt8 → Prop} [DecidablePred P] (h:∀ n,n < 256 → P (UInt8.ofNat n)) (c:UInt8):P c:=by
 have:=h c.toNat c.toNat_lt
 simpa using this
theorem qnH (N:Nat) (c:UInt8):qfa N (c.toNat:Int) = some (ltr c || dgt c):=by
 show qfa 0 (c.toNat:Int) = _
 revert c
 exact qfd (by decide +kernel)
theorem eq95 (c:UInt8):((c.toNat:Int) != 95) = !(c == 95):=by
 revert c
 exact qfd (by decide +kernel)
theorem eq45 (c:UInt8):((c.toNat:Int) != 45) = !(c == 45):=by
 revert c
 exact qfd (by decide +kernel)
theorem qft {N:Nat} {s:Str} (hN:s.length < N):qbY N s = some (nam s):=by
 unfold qbY nam
 cases s with
 | nil=>rfl
 | cons c t =>
  have e1:(c :: t == ([]:Str)) = false:=rfl
  simp only [e1,cond_false]
  by_cases h1:(c :: t).length ≤ 40
  ·simp only [decide_eq_false (show ¬ (((c :: t).length:Nat):Int) > 40 by omega),cond_false,decide_eq_true h1,Bool.true_and,show idx (c :: t) 0 = some c from rfl,Option.bind_some,hdl]
   by_cases h2:97 ≤ c.toNat
   ·simp only [decide_eq_false (show ¬ (c.toNat:Int) < 97 by omega),cond_false]
    by_cases h3:c.toNat ≤ 122
    ·simp only [decide_eq_false (show ¬ (c.toNat:Int) > 122 by omega),cond_false]
     rw [qfr inn false (c :: t) (fun k x hk=>?_) ?_ N hN]
     ·unfold lwr
      rw [decide_eq_true h2,decide_eq_true h3]
      cases (c :: t).all inn <;> rfl
     ·unfold qeR
      simp only [dnlt,cond_false]
     ·unfold qeR
      simp only [dltx hk,cond_true,qbc hk,Option.bind_some,qnH,eq95,eq45]
      unfold inn
      cases (ltr x || dgt x) <;> cases (x == 95) <;> cases (x == 45) <;> rfl
    ·simp only [decide_eq_true (show (c.toNat:Int) > 122 by omega),cond_true,lwr,decide_eq_false h3,Bool.and_false,Bool.false_and]
   ·simp only [decide_eq_true (show (c.toNat:Int) < 97 by omega),cond_true,lwr,decide_eq_false h2,Bool.false_and]
  ·simp only [decide_eq_true (show (((c :: t).length:Nat):Int) > 40 by omega),cond_true,decide_eq_false h1,Bool.false_and]
theorem qnX (N:Nat) (c:UInt8):qdR N (c.toNat:Int) = some (inn c):=by
 show qdR 0 (c.toNat:Int) = _
 revert c
 exact qfd (by decide +kernel)
theorem qop (N:Nat) (c:UInt8):qdg N (c.toNat:Int) = some (lwr c):=by
 show qdg 0 (c.toNat:Int) = _
 revert c
 exact qfd (by decide +kernel)
theorem qg8 {N:Nat} {s:Str} (hN:s.length < N):qaY N s = some (nam s):=by
 unfold qaY
 rw [qfr inn false s (fun k x hk=>?_) ?_ N hN]
 ·cases s with
  | nil=>rfl
  | cons c t =>
   simp only [show idx (c :: t) 0 = some c from rfl,qop]
   unfold nam hdl
   have e:decide ((((c :: t).length:Nat):Int) ≥ 1) = true:=decide_eq_true (by simp only [List.length_cons]; omega)
   have e2:decide ((((c :: t).length:Nat):Int) ≤ 40) = decide ((c :: t).length ≤ 40):=decide_eq_decide.2 (by omega)
   rw [e2]
   cases (c :: t).all inn with
   | false=>simp
   | true =>
    simp only [if_true,Option.bind_some,Sum.elim_inl,e,cond_true]
    cases decide ((c :: t).length ≤ 40) <;> cases lwr c <;> rfl
 ·unfold qdp
  simp only [dnlt,cond_false]
 ·unfold qdp
  simp only [dltx hk,cond_true,qbc hk,Option.bind_some,qnX]
  cases inn x <;> rfl
def clss:List Str:=[[122,101,114,111],[111,110,101],[116,119,111],[102,101,119],[109,97,110,121],[111,116,104,101,114]]
theorem qnJ (N:Nat) (s:Str):qdU N s = some (clss.contains s):=by
 unfold qdU clss
 simp only [List.contains_cons,List.contains_nil,Bool.or_false]
 cases (s == ([122,101,114,111]:Str)) <;> cases (s == ([111,110,101]:Str)) <;> cases (s == ([116,119,111]:Str)) <;> cases (s == ([102,101,119]:Str)) <;> cases (s == ([109,97,110,121]:Str)) <;> cases (s == ([111,116,104,101,114]:Str)) <;> rfl
def key (B:Int) (s:Str):Bool:=if B == 9 then nam s else clss.contains s || (([61]:Str).isPrefixOf s && vld (s.drop 1))
theorem eq61 (c:UInt8):((c.toNat:Int) == 61) = (c == 61):=by
 revert c
 exact qfd (by decide +kernel)
theorem qpT {N:Nat} {B:Int} {s:Str} (hs:s.length ≤ 2000000) (hN:2003000 ≤ N):qdb N B s = some (key B s):=by
 unfold qdb key
 cases h:(B == 9) with
 | true =>
  simp only [cond_true,if_true,qg8 (show s.length < N by omega)]
  rfl
 | false =>
  simp only [cond_false,Bool.false_eq_true,if_false,qnJ,Option.bind_some]
  cases clss.contains s with
  | true=>rfl
  | false =>
   simp only [cond_false,Bool.false_or]
   cases s with
   | nil=>rfl
   | cons c t =>
    cases t with
    | nil =>
     have:vld (([c]:Str).drop 1) = false:=show vld [] = false by decide
     rw [this,Bool.and_false]
     rfl
    | cons d t =>
     have e:decide ((((c :: d :: t).length:Nat):Int) > 1) = true:=decide_eq_true (by simp only [List.length_cons]; omega)
     have e2:([61]:Str).isPrefixOf (c :: d :: t) = (c == 61):=by
      simp only [List.isPrefixOf,Bool.and_true]
      exact Bool.eq_iff_iff.2 ⟨fun h=>beq_iff_eq.2 (beq_iff_eq.1 h).symm,fun h=>beq_iff_eq.2 (beq_iff_eq.1 h).symm⟩
     have e3:=qjO (xs:=c :: d :: t) (a:=1) (by simp)
     rw [show ((1:Nat):Int) = 1 from rfl] at e3
     simp only [e,cond_true,show idx (c :: d :: t) 0 = some c from rfl,Option.bind_some,eq61,e2,e3]
     cases (c == 61) with
     | false=>rfl
     | true =>
      simp only [cond_true,Bool.true_and]
      rw [qml (by rw [List.length_drop]; omega) hN]
      rfl
def skel (s:Str):Bool:=s.all ltr && (decide (1 ≤ s.length) && decide (s.length ≤ 40))
theorem qoL {N:Nat} {s:Str} (hN:s.length < N):qdc N s = some (skel s):=by
 unfold qdc
 rw [qfr ltr false s (fun k x hk=>?_) ?_ N hN]
 ·unfold skel
  have e2:decide (((s.length:Nat):Int) ≤ 40) = decide (s.length ≤ 40):=decide_eq_decide.2 (by omega)
  have e1:decide (((s.length:Nat):Int) ≥ 1) = decide (1 ≤ s.length):=decide_eq_decide.2 (by omega)
  rw [e2,e1]
  cases s.all ltr <;> cases decide (1 ≤ s.length) <;> rfl
 ·unfold qcL
  simp only [dnlt,cond_false]
 ·unfold qcL ltr lwr
  simp only [dltx hk,cond_true,qbc hk,Option.bind_some]
  have a1:decide ((x.toNat:Int) ≥ 97) = decide (97 ≤ x.toNat):=decide_eq_decide.2 (by omega)
  have a2:decide ((x.toNat:Int) ≤ 122) = decide (x.toNat ≤ 122):=decide_eq_decide.2 (by omega)
  have a3:decide ((x.toNat:Int) ≥ 65) = decide (65 ≤ x.toNat):=decide_eq_decide.2 (by omega)
  have a4:decide ((x.toNat:Int) ≤ 90) = decide (x.toNat ≤ 90):=decide_eq_decide.2 (by omega)
  rw [a1,a2,a3,a4]
  cases decide (97 ≤ x.toNat) <;> cases decide (x.toNat ≤ 122) <;> cases decide (65 ≤ x.toNat) <;> cases decide (x.toNat ≤ 90) <;> rfl
theorem qnG {N:Nat} (l:List Str) (m:Str) (hN:l.length < N):qbK N l m = some (l.contains m):=by
 unfold qbK
 rw [qnQ (fun x=>x == m) l (fun k x hk=>?_) ?_ N hN]
 ·have e:l.any (fun x=>x == m) = l.contains m:=by
   rw [List.contains_eq_any_beq]
   congr 1
   funext x
   exact Bool.eq_iff_iff.2 ⟨fun h=>beq_iff_eq.2 (beq_iff_eq.1 h).symm,fun h=>beq_iff_eq.2 (beq_iff_eq.1 h).symm⟩
  rw [e]
  cases l.contains m <;> rfl
 ·unfold qdS
  simp only [dnlt,cond_false]
 ·unfold qdS
  simp only [dltx hk,cond_true,qbc hk,Option.bind_some]
  cases (x == m) <;> rfl
def tt (l:List Str):List (Str × Bool):=l.map fun s=>(s,true)
theorem qhL (s:Str):∀ l:List Str,(mget (tt l) s).getD false = l.contains s
 | []=>rfl
 | x :: l=>by
  have ih:=qhL s l
  unfold mget tt at ih ⊢
  rw [List.map_cons,List.find?_cons,List.contains_cons]
  cases h:(s == x) with
  | true=>simp
  | false=>simpa using ih
theorem qkf {l:List Str} {s:Str} (h:l.contains s = false) (hl:l.length < 4294967296):mset (tt l) s true = some (tt (l ++ [s])):=by
 unfold mset
 rw [if_pos (by unfold tt LIM; simpa using hl),qjS]
 ·unfold tt; simp
 ·intro p hp e
  obtain ⟨x,hx,rfl⟩:=List.mem_map.1 hp
  simp only at e
  subst e
  rw [List.contains_iff_mem.2 hx] at h
  cases h
theorem qix (N:Nat) (s:Str):qe6 N s = some (clss.contains s):=by
 unfold qe6 clss
 simp only [List.contains_cons,List.contains_nil,Bool.or_false]
 cases (s == ([122,101,114,111]:Str)) <;> cases (s == ([111,110,101]:Str)) <;> cases (s == ([116,119,111]:Str)) <;> cases (s == ([102,101,119]:Str)) <;> cases (s == ([109,97,110,121]:Str)) <;> cases (s == ([111,116,104,101,114]:Str)) <;> rfl
theorem qjK {N:Nat} {B:Int} {s:Str} (hs:s.length ≤ 2000000) (hN:2003000 ≤ N):qfU N B s = some (key B s):=by
 unfold qfU key
 cases h:(B == 9) with
 | true =>
  simp only [cond_true,if_true,qft (show s.length < N by omega)]
  rfl
 | false =>
  simp only [cond_false,Bool.false_eq_true,if_false,qix]
  unfold strings_CutPrefix
  simp only [Option.bind_some]
  cases clss.contains s with
  | true=>rfl
  | false =>
   simp only [cond_false,Bool.false_or]
   show (bif ([61]:Str).isPrefixOf s then (qdk N (if ([61]:Str).isPrefixOf s then s.drop 1 else s)).bind (fun r=>some r) else some false) = _
   cases ([61]:Str).isPrefixOf s with
   | false=>rfl
   | true =>
    simp only [cond_true,if_true,qgX (show (s.drop 1).length ≤ 2000000 by rw [List.length_drop]; omega)]
    rfl
theorem qi1 {N:Nat} {s:Str} (hN:s.length < N):qel N s = some (skel s):=by
 unfold qel
 rw [qfr ltr false s (fun k x hk=>?_) ?_ N hN]
 ·unfold skel
  have e2:decide (((s.length:Nat):Int) ≤ 40) = decide (s.length ≤ 40):=decide_eq_decide.2 (by omega)
  rw [e2]
  cases s with
  | nil=>rfl
  | cons c t =>
   rw [show ((c :: t) != ([]:Str)) = true from rfl,show decide (1 ≤ (c :: t).length) = true from decide_eq_true (by simp)]
   cases (c :: t).all ltr <;> rfl
 ·unfold qdH
  simp only [dnlt,cond_false]
 ·unfold qdH ltr lwr
  simp only [dltx hk,cond_true,qbc hk,Option.bind_some]
  have a1:decide ((x.toNat:Int) < 97) = !decide (97 ≤ x.toNat):=by rw [← decide_not]; exact decide_eq_decide.2 (by omega)
  have a2:decide ((x.toNat:Int) > 122) = !decide (x.toNat ≤ 122):=by rw [← decide_not]; exact decide_eq_decide.2 (by omega)
  have a3:decide ((x.toNat:Int) < 65) = !decide (65 ≤ x.toNat):=by rw [← decide_not]; exact decide_eq_decide.2 (by omega)
  have a4:decide ((x.toNat:Int) > 90) = !decide (x.toNat ≤ 90):=by rw [← decide_not]; exact decide_eq_decide.2 (by omega)
  rw [a1,a2,a3,a4]
  cases decide (97 ≤ x.toNat) <;> cases decide (x.toNat ≤ 122) <;> cases decide (65 ≤ x.toNat) <;> cases decide (x.toNat ≤ 90) <;> rfl
end Go.Proofs.YtmghnmfefpeelaaGreatDoor
namespace Go.Proofs.YtmghnmfefpeelaaGreatDoor
open Go.X
mutual
def Part.blk:Part → Nat
 | ⟨_,t,n,s,cs,ps⟩=>t.length + n.length + s.length + blkCs cs + blkPs ps + 7
def blkPs:List Part → Nat
 | []=>0
 | p :: r=>p.blk + blkPs r
def blkCs:List (CaseP Part) → Nat
 | []=>0
 | c :: r=>blkC c + blkCs r
def blkC:CaseP Part → Nat
 | ⟨k,ps⟩=>k.length + blkPs ps + 3
end
abbrev Case.blk:Case → Nat:=blkC
theorem qeo (x:Part):x.blk = x.Text.length + x.Name.length + x.Style.length + blkCs x.Cases + blkPs x.Parts + 7:=by
 cases x; rw [Part.blk]
theorem qeI (c:CaseP Part):blkC c = c.Key.length + blkPs c.Parts + 3:=by
 cases c; rw [blkC]
theorem qe3:∀ l:List Part,blkPs l = (l.map Part.blk).sum
 | []=>by rw [blkPs]; rfl
 | p :: r=>by rw [blkPs,qe3 r]; rfl
theorem qgn:∀ l:List (CaseP Part),blkCs l = (l.map blkC).sum
 | []=>by rw [blkCs]; rfl
 | p :: r=>by rw [blkCs,qgn r]; rfl
theorem qei:∀ {l:List Part} {x:Part},x ∈ l → x.blk ≤ blkPs l
 | p :: r,x,h=>by
  rw [blkPs]
  rcases List.mem_cons.1 h with rfl | h
  ·omega
  ·have:=qei h; omega
theorem qet:∀ {l:List (CaseP Part)} {x:CaseP Part},x ∈ l → blkC x ≤ blkCs l
 | p :: r,x,h=>by
  rw [blkCs]
  rcases List.mem_cons.1 h with rfl | h
  ·omega
  ·have:=qet h; omega
theorem qeU:∀ l:List Part,7 * l.length ≤ blkPs l
 | []=>by simp
 | p :: r=>by
  have:=qeU r
  have:=qeo p
  rw [blkPs,List.length_cons]
  omega
theorem qdx:∀ l:List (CaseP Part),3 * l.length ≤ blkCs l
 | []=>by simp
 | p :: r=>by
  have:=qdx r
  have:=qeI p
  rw [blkCs,List.length_cons]
  omega
theorem qho {l:List Part} {x:Part} (h:x ∈ l):blkPs x.Parts + 7 ≤ blkPs l:=by
 have:=qei h
 have:=qeo x
 omega
theorem qhm {l:List Part} {x:Part} {c:CaseP Part} (h:x ∈ l) (hc:c ∈ x.Cases):blkPs c.Parts + 10 ≤ blkPs l:=by
 have:=qei h
 have:=qeo x
 have:=qet hc
 have:=qeI c
 omega
theorem qjT (l:List Part) (k:Nat):blkPs (l.take k) ≤ blkPs l:=by
 induction l generalizing k with
 | nil=>simp
 | cons p r ih =>
  cases k with
  | zero=>simp [blkPs]
  | succ k=>rw [List.take_succ_cons,blkPs,blkPs]; have:=ih k; omega
theorem qp6 (a b:List Part):blkPs (a ++ b) = blkPs a + blkPs b:=by
 rw [qe3,qe3,qe3,List.map_append,List.sum_append]
theorem qgj {P:List Part → Prop} (h:∀ l,(∀ x ∈ l,P x.Parts ∧ ∀ c ∈ x.Cases,P c.Parts) → P l):∀ l,P l:=by
 have key:∀ n l,blkPs l < n → P l:=by
  intro n
  induction n with
  | zero=>intro l hl; omega
  | succ n ih =>
   intro l hl
   refine h l fun x hx=>⟨ih _ ?_,fun c hc=>ih _ ?_⟩
   ·have:=qho hx; omega
   ·have:=qhm hx hc; omega
 exact fun l=>key _ l (Nat.lt_succ_self _)
def runR {α σ ρ:Type} (f:σ → Nat → α → σ ⊕ ρ):List α → Nat → σ → σ ⊕ ρ
 | [],_,s=>.inl s
 | x :: r,k,s=>match f s k x with
  | .inl s'=>runR f r (k + 1) s'
  | .inr b=>.inr b
theorem qnI {α σ τ β:Type} (xs:List α) (body:τ → Option (τ ⊕ β)) (mk:σ → Int → τ) 
  (h1:∀ s (k:Nat) x,xs[k]? = some x → ∃ o:σ ⊕ β,body (mk s k) = some (match o with | .inl s'=>.inl (mk s' ((k:Int) + 1)) | .inr b=>.inr b))
  (h2:∀ s,∃ b,body (mk s xs.length) = some (.inr b)):∀ N s,xs.length < N → ∃ b,iter body N (mk s 0) = some b:=by
 have key:∀ j k N s,k + j = xs.length → j < N → ∃ b,iter body N (mk s (k:Int)) = some b:=by
  intro j
  induction j with
  | zero =>
   intro k N s hk hN
   obtain ⟨N,rfl⟩:∃ M,N = M + 1:=⟨N - 1,by omega⟩
   obtain rfl:k = xs.length:=by omega
   obtain ⟨b,hb⟩:=h2 s
   exact ⟨b,by rw [iter,hb]⟩
  | succ j ih =>
   intro k N s hk hN
   obtain ⟨N,rfl⟩:∃ M,N = M + 1:=⟨N - 1,by omega⟩
   obtain ⟨o,ho⟩:=h1 s k _ (List.getElem?_eq_getElem (show k < xs.length by omega))
   rw [iter,ho]
   cases o with
   | inl s' =>
    simp only
    rw [show ((k:Int) + 1) = ((k + 1:Nat):Int) by omega]
    exact ih (k + 1) N s' (by omega) (by omega)
   | inr b=>exact ⟨b,rfl⟩
 intro N s hN
 exact key xs.length 0 N s (by omega) hN
theorem qfe {α σ τ β:Type} {G:Prop} (xs:List α) (body:τ → Option (τ ⊕ β)) (mk:σ → Int → τ) (N:Nat) (s:σ) (hN:xs.length < N)
  (h1:∀ s (k:Nat) x,xs[k]? = some x → ∃ o:σ ⊕ β,body (mk s k) = some (match o with | .inl s'=>.inl (mk s' ((k:Int) + 1)) | .inr b=>.inr b))
  (h2:∀ s,∃ b,body (mk s xs.length) = some (.inr b)) (K:∀ b,iter body N (mk s 0) = some b → G):G:=by
 obtain ⟨b,hb⟩:=qnI xs body mk h1 h2 N s hN
 exact K b hb
theorem dk {α:Type} {l:List α} {k:Nat} {x:α} (h:l[k]? = some x):decide ((k:Int) < (l.length:Int)) = true:=decide_eq_true (by have:=(List.getElem?_eq_some_iff.1 h).1; omega)
theorem dn {α:Type} (l:List α):decide ((l.length:Int) < (l.length:Int)) = false:=decide_eq_false (by omega)
theorem ix {α:Type} {l:List α} {k:Nat} {x:α} (h:l[k]? = some x):idx l (k:Int) = some x:=by
 unfold idx
 rw [if_pos (by omega),Int.toNat_natCast,h]
theorem qc8 {α:Type} {l:List α} {k:Nat} {x:α} (h:l[k]? = some x):x ∈ l:=List.mem_of_getElem? h
theorem qna:∀ N l,blkPs l + 2 ≤ N → ∃ n,qbH N l = some n:=by
 intro N
 induction N with
 | zero=>intro l h; omega
 | succ N ih =>
  intro l hN
  have hl:=qeU l
  show ∃ n,qcY (qbH N) N l = some n
  unfold qcY
  refine qfe l (fun s=>qcI (qbH N) N l s.1 s.2) (fun (s:Int) k=>(s,k)) N 0 (by omega) (fun s k x hx=>?_) (fun s=>⟨s,?_⟩) fun b hb=>?_
  rotate_right
  ·exact ⟨b,by rw [hb]; first | done | rfl⟩
  ·have hm:=qc8 hx
   simp only [qcI]
   rw [dk hx,cond_true,ix hx]
   simp only [Option.bind_some]
   obtain ⟨d,hd⟩:=ih x.Parts (by have:=qho hm; omega)
   rw [hd]
   simp only [Option.bind_some]
   refine qfe x.Cases (fun s=>qcH (qbH N) N l (k:Int) s.1 s.2) (fun (s:Int) k=>(s,k)) N (max (max s 1) (IntKind.wrap .i64 ((1:Int) + d))) (by have:=qdx x.Cases; have:=qei hm; have:=qeo x; omega) (fun s j c hc=>?_) (fun s=>⟨s,?_⟩) fun o ho=>?_
   rotate_right
   ·rw [ho]
    exact ⟨.inl o,rfl⟩
   ·obtain ⟨e,he⟩:=ih c.Parts (by have:=qhm hm (qc8 hc); omega)
    simp only [qcH,ix hx,Option.bind_some,dk hc,cond_true,ix hc,he]
    exact ⟨.inl _,rfl⟩
   ·simp only [qcH,ix hx,Option.bind_some,dn,cond_false]
  ·simp only [qcI,dn,cond_false]
theorem qn5:∀ N l,blkPs l + 2 ≤ N → ∃ n,qbP N l = some n:=by
 intro N
 induction N with
 | zero=>intro l h; omega
 | succ N ih =>
  intro l hN
  have hl:=qeU l
  show ∃ n,qc5 (qbP N) N l = some n
  unfold qc5
  refine qfe l (fun s=>qcR (qbP N) N l s.1 s.2) (fun (s:Int) k=>(s,k)) N 0 (by omega) (fun s k x hx=>?_) (fun s=>⟨s,?_⟩) fun b hb=>?_
  rotate_right
  ·exact ⟨b,by rw [hb]; first | done | rfl⟩
  ·have hm:=qc8 hx
   simp only [qcR]
   rw [dk hx,cond_true,ix hx]
   simp only [Option.bind_some]
   obtain ⟨d,hd⟩:=ih x.Parts (by have:=qho hm; omega)
   rw [hd]
   simp only [Option.bind_some]
   refine qfe x.Cases (fun s=>qcT (qbP N) N l (k:Int) s.1 s.2) (fun (s:Int) k=>(s,k)) N (IntKind.wrap .i64 (s + (IntKind.wrap .i64 ((IntKind.wrap .i64 ((1:Int) + d)) + (IntKind.wrap .i64 ((x.Text.length:Int).tdiv 20)))))) (by have:=qdx x.Cases; have:=qei hm; have:=qeo x; omega) (fun s j c hc=>?_) (fun s=>⟨s,?_⟩) fun o ho=>?_
   rotate_right
   ·rw [ho]
    exact ⟨.inl o,rfl⟩
   ·obtain ⟨e,he⟩:=ih c.Parts (by have:=qhm hm (qc8 hc); omega)
    simp only [qcT,ix hx,Option.bind_some,dk hc,cond_true,ix hc,he]
    exact ⟨.inl _,rfl⟩
   ·simp only [qcT,ix hx,Option.bind_some,dn,cond_false]
  ·simp only [qcR,dn,cond_false]
theorem qm7:∀ N l,blkPs l + 2 ≤ N → ∃ n,qbI N l = some n:=by
 intro N
 induction N with
 | zero=>intro l h; omega
 | succ N ih =>
  intro l hN
  have hl:=qeU l
  show ∃ n,qcV (qbI N) N l = some n
  unfold qcV
  refine qfe l (fun s=>qcC (qbI N) N l s) (fun (_:Unit) k=>k) N () (by omega) (fun s k x hx=>?_) (fun s=>⟨.inl (),?_⟩) fun b hb=>?_
  rotate_right
  ·exact ⟨Sum.elim (fun _=>true) id b,by rw [hb]; first | done | (cases b <;> rfl)⟩
  ·have hm:=qc8 hx
   simp only [qcC]
   rw [dk hx,cond_true,ix hx]
   simp only [Option.bind_some]
   obtain ⟨d,hd⟩:=ih x.Parts (by have:=qho hm; omega)
   refine qfe x.Cases (fun s=>qcG (qbI N) N l (k:Int) s) (fun (_:Unit) k=>k) N () (by have:=qdx x.Cases; have:=qei hm; have:=qeo x; omega) (fun s j c hc=>?_) (fun s=>⟨.inl (),?_⟩) fun o ho=>?_
   rotate_right
   ·rw [hd]
    simp only [Option.bind_some]
    rw [ho]
    cases decide ((x.Name.length:Int) > 60) with
    | true=>exact ⟨.inr (.inr false),rfl⟩
    | false =>
     cases decide ((x.Style.length:Int) > 60) with
     | true=>exact ⟨.inr (.inr false),rfl⟩
     | false =>
      cases d with
      | false=>exact ⟨.inr (.inr false),rfl⟩
      | true =>
       cases o with
       | inl o=>exact ⟨.inl (),rfl⟩
       | inr o=>exact ⟨.inr (.inr o),rfl⟩
   ·obtain ⟨e,he⟩:=ih c.Parts (by have:=qhm hm (qc8 hc); omega)
    simp only [qcG,ix hx,Option.bind_some,dk hc,cond_true,ix hc,he]
    cases decide ((c.Key.length:Int) > 60) with
    | true=>exact ⟨.inr (.inr false),rfl⟩
    | false =>
     cases e with
     | false=>exact ⟨.inr (.inr false),rfl⟩
     | true=>exact ⟨.inl (),rfl⟩
   ·simp only [qcG,ix hx,Option.bind_some,dn,cond_false]
  ·simp only [qcC,dn,cond_false]
theorem qoO {N:Nat} {l:List Part} (h:blkPs l + 2 ≤ N):∃ b,qer N l = some b:=by
 obtain ⟨d,hd⟩:=qna N l h
 obtain ⟨s,hs⟩:=qn5 N l h
 obtain ⟨t,ht⟩:=qm7 N l h
 unfold qer
 rw [hd,hs,ht]
 simp only [Option.bind_some]
 cases decide (d ≤ 12) with
 | false=>exact ⟨_,rfl⟩
 | true=>cases decide (s ≤ 300) <;> exact ⟨_,rfl⟩
end Go.Proofs.YtmghnmfefpeelaaGreatDoor
namespace Go.Proofs.YtmghnmfefpeelaaGreatDoor
open Go.ChangeShapes Go.WideShapes Go.ChangeAt Go.RowKit Go.X
theorem qo3 {H:Type} (d:DataW H):1 ≤ Rows.uptoBulk d:=by
 cases d with
 | lit l=>cases l <;> simp [Rows.uptoBulk]
 | nil=>simp [Rows.uptoBulk]
 | ptr d=>simp [Rows.uptoBulk]
 | slice elems spare=>simp [Rows.uptoBulk]
 | agg parts=>simp [Rows.uptoBulk]
 | iface t d=>simp [Rows.uptoBulk]
 | map entries=>simp [Rows.uptoBulk]
 | held h=>simp [Rows.uptoBulk]
theorem qfR:Bulk (fun H=>Rows.uptoBulk (H:=H)) (fun H=>Rows.uptoBulkAll (H:=H)) :=
 ⟨fun H b=>by simp [Rows.uptoBulk],fun H d=>qo3 d,fun H e s=>by simp [Rows.uptoBulk],fun H p=>by simp [Rows.uptoBulk],fun H=>by simp [Rows.uptoBulkAll],fun H d r=>by simp [Rows.uptoBulkAll]⟩
theorem pce3:Tryz.prog.cellsOf 3 = 1:=by kernel_rfl
theorem pce9:Tryz.prog.cellsOf 9 = 1:=by kernel_rfl
theorem qpg:Tryz.prog.cellsOf 22 = 1:=by kernel_rfl
theorem qq7:Tryz.prog.cellsOf 61 = 1:=by kernel_rfl
theorem qnd:Tryz.prog.cellsOf 63 = 6:=by kernel_rfl
theorem qpl:Tryz.prog.cellsOf 65 = 2:=by kernel_rfl
theorem qry {n:Nat} (h0:OpnU (fun H=>Rows.uptoBulk (H:=H)) n Tryz.prog 63 qbD (fun _=>True) Part.blk):OpnU (fun H=>Rows.uptoBulk (H:=H)) n Tryz.prog 65 qj8 (fun _=>True) blkC:=⟨fun {H enc W base spare held fuel cs x} h hz=>by
 obtain ⟨hl,u,hu,hf⟩:=ql5 (n:=n) qfR Tryz.underlying65 h (Nat.lt_succ_of_lt hz)
 obtain ⟨c0,c1,rfl⟩:=len2 (hl.trans qpl)
 obtain ⟨a0,h0',q0,b0⟩:=hf 0 _ 1 rfl pce9 (qlz qfR Tryz.underlying9)
 obtain ⟨a1,h1,q1,b1⟩:=hf 1 _ 1 rfl qpg ((qjt qfR Tryz.underlying22 qnd (Nat.succ_pos _) h0).mono (Nat.le_succ n))
 have h0':pS _ [c0] a0:=h0'
 obtain ⟨rfl,g0⟩:=qkC h0'
 have h1:(pL 6 qbD) _ [c1] a1:=h1
 refine ⟨⟨a0,a1⟩,⟨c1,rfl,g0,h1⟩,trivial,?_⟩
 simp [List.range_succ] at hu
 rw [blkC,qe3]
 omega⟩
theorem qpw:∀ n,OpnU (fun H=>Rows.uptoBulk (H:=H)) n Tryz.prog 63 qbD (fun _=>True) Part.blk
 | 0=>⟨fun h hz=>absurd hz (Nat.not_lt_zero _)⟩
 | n + 1=>⟨fun {H enc W base spare held fuel cs x} h hz=>by
  have ih:=qpw n
  obtain ⟨hl,u,hu,hf⟩:=ql5 (n:=n) qfR Tryz.underlying63 h hz
  obtain ⟨c0,c1,c2,c3,c4,c5,rfl⟩:=len6 (hl.trans qnd)
  obtain ⟨a0,h0,q0,b0⟩:=hf 0 _ 1 rfl pce3 (qrg qfR Tryz.underlying3)
  obtain ⟨a1,h1,q1,b1⟩:=hf 1 _ 1 rfl pce9 (qlz qfR Tryz.underlying9)
  obtain ⟨a2,h2,q2,b2⟩:=hf 2 _ 1 rfl pce9 (qlz qfR Tryz.underlying9)
  obtain ⟨a3,h3,q3,b3⟩:=hf 3 _ 1 rfl pce9 (qlz qfR Tryz.underlying9)
  obtain ⟨a4,h4,q4,b4⟩:=hf 4 _ 1 rfl qq7 ((qjt qfR Tryz.underlying61 qpl (Nat.succ_pos _) (qry ih)).mono (Nat.le_succ n))
  obtain ⟨a5,h5,q5,b5⟩:=hf 5 _ 1 rfl qpg ((qjt qfR Tryz.underlying22 qnd (Nat.succ_pos _) ih).mono (Nat.le_succ n))
  have h0:pI .i64 _ [c0] a0:=h0
  have h1:pS _ [c1] a1:=h1
  have h2:pS _ [c2] a2:=h2
  have h3:pS _ [c3] a3:=h3
  have h4:(pL 2 qj8) _ [c4] a4:=h4
  have h5:(pL 6 qbD) _ [c5] a5:=h5
  obtain ⟨rfl,g0⟩:=qqv h0
  obtain ⟨rfl,g1⟩:=qkC h1
  obtain ⟨rfl,g2⟩:=qkC h2
  obtain ⟨rfl,g3⟩:=qkC h3
  refine ⟨⟨a0,a1,a2,a3,a4,a5⟩,qaL.2 ⟨c4,c5,rfl,g0,g1,g2,g3,h4,h5⟩,trivial,?_⟩
  simp [List.range_succ] at hu
  rw [Part.blk,qe3,qgn]
  omega⟩
end Go.Proofs.YtmghnmfefpeelaaGreatDoor
namespace Go.Proofs.YtmghnmfefpeelaaGreatDoor
open Go.ChangeShapes Go.WideShapes Go.ChangeAt Go.RowKit Go.X
theorem own:ownKnob Tryz.prog.godebug = none:=by kernel_rfl
theorem qp5:laidOutB Tryz.prog = true:=by kernel_rfl
theorem qol {H:Type} {enc:TypeId × Value → H} {W:World} {base:Nat} {sp:Nat → Bool} {held:Bool} (b:Bool):DataW.Trod enc Tryz.prog W base sp held 4 (.bool b) (.lit (.bool b)) [] :=
 ⟨1,by simp [DataW.trod,Value.cells,Tryz.underlying4]⟩
theorem qpP {W:World} (h:W.ShapedOpen Tryz.prog):Glob W:=cell_of_shapedOpen_int (g:=0) (t:=3) (zero:=#[.int .i64 0]) h (of_decide_eq_true (by kernel_rfl)) (by kernel_rfl) (by kernel_rfl) (by kernel_rfl) (by kernel_rfl) Tryz.underlying3
theorem ce63:Tryz.prog.cellsOf 63 = 6:=by kernel_rfl
set_option maxRecDepth 100000 in
theorem qhc (hp:∀ x0,(fun xs=>∀ y ∈ xs,(fun _=>True) y) x0 → (fun xs=>(xs.map Part.blk).sum + 1) x0 ≤ 1048576 → ∃ N,qbg N x0 = some true) (H:Type) (enc:TypeId × Value → H) (W:World) (base:Nat) (args:Array Value) (ds gs:List (DataW H)) (before:List MemPlace)
  (hval0:∀ (j:Nat) t v,Tryz.f3.params[j]? = some t → args[j]? = some v → Value.okWide Tryz.prog W .any base t v)
  (hW:DataW.Whole enc Tryz.prog Tryz.f3.params.toList Rows.verifyCompiledSpec.vars false W args.toList ds gs before) (hk:Rows.uptoSmall H (ds ++ gs) = true) (hX:laidMetH Tryz.prog Rows.verifyCompiledUptoRow.laid W) (hsh:W.ShapedOpen Tryz.prog) :
  Calls Tryz.prog 3 args W fun e W'=>∃ v,e = .returned v ∧ Rows.verifyCompiledSpec.post enc Tryz.prog Tryz.f3 false true false false W args v W':=by
 have hval:∀ (j:Nat) t v,Tryz.f3.params[j]? = some t → args[j]? = some v → Value.okWide Tryz.prog W .any base t v:=hval0
 have hW':=hW
 obtain ⟨p,q,hA0,hV,rfl,_,_⟩:=hW
 have hA:DataW.TrodAll enc Tryz.prog W 0 (fun _=>true) true Tryz.f3.params.toList args.toList ds p:=hA0
 rw [Tryz.params3] at hA hval
 obtain ⟨v0,d0,rfl,rfl,k0⟩:=trodAll_one hA
 obtain ⟨p0,hp0⟩:∃ p0,p0 = p:=⟨_,rfl⟩
 subst hp0
 obtain ⟨rfl,rfl⟩:=trodVars_none hV
 have hbk:Rows.uptoBulk d0 ≤ 1048576:=by
  have h:=of_decide_eq_true hk
  simp only [List.append_nil,Rows.uptoBulkAll] at h
  omega
 obtain ⟨fu0,hf0⟩:=id k0
 obtain ⟨s0,u0,w0,rfl⟩:=okWide_slice Tryz.underlying22 (hval 0 22 v0 rfl rfl)
 obtain ⟨a0,r0,q0,b0⟩:=((fun n=>(qjt qfR Tryz.underlying22 ce63 (Nat.succ_pos _) (qpw n)).mono (Nat.le_succ n)) _).get hf0 (Nat.lt_succ_self _)
 clear hA0 hval0
 have hlt:∀ x ∈ p0,x.block < W.heap.size:=fun x hx=>by
  refine hW'.lt x ?_
  simpa using hx
 have hlt0:∀ x ∈ p0,x.block < W.heap.size:=fun x hx=>hlt x (by simp [hx])
 obtain ⟨N,hN⟩:=hp a0 q0 (Nat.le_trans b0 hbk)
 have hw:=qf0 N _ a0 r0 hN (qpP hsh) (Ok.start W)
 refine hw.mono fun e W' ⟨he,ok⟩=>?_
 subst he
 have hn:=ok.below
 have t0:=Below.trod qp5 (by kernel_rfl) (of_decide_eq_true (by kernel_rfl)) k0 hn hlt0
 refine ⟨_,rfl,_,_,_,[],p0,[],hW',?_,?_,rfl,hn.frame _,fun h=>by cases h⟩
 ·exact trodAll_mk1 (qol true)
 ·exact trodAll_mk1 t0
set_option maxRecDepth 100000 in
theorem qii (os:Os) {H:Type} (enc:TypeId × Value → H):∃ places,DataW.whole enc Tryz.prog ((World.laidAll Tryz.prog os Rows.verifyCompiledUptoRow.laid).forCall (fun _ _=>0) ⟨#[],#[.slice none 0 0],[]⟩).memory Tryz.f3.params.toList Rows.verifyCompiledSpec.vars false #[.slice none 0 0].toList 8 = some ([.nil],[],places) :=
 ⟨[],by kernel_rfl⟩
set_option maxRecDepth 100000 in
theorem qhW (hp:∀ x0,(fun xs=>∀ y ∈ xs,(fun _=>True) y) x0 → (fun xs=>(xs.map Part.blk).sum + 1) x0 ≤ 1048576 → ∃ N,qbg N x0 = some true) (os:Os) (started:os.Started) (H:Type) (enc:TypeId × Value → H) (F:Stop.Interp) :
  ReturnsInHanded {} Tryz.checked os 3 .any ((Rows.OpenSpec.upto Rows.verifyCompiledSpec).preRow enc Tryz.prog Tryz.f3 Rows.verifyCompiledUptoRow.domain false Rows.verifyCompiledUptoRow.laid) (((Rows.OpenSpec.upto Rows.verifyCompiledSpec).at F).post enc Tryz.prog Tryz.f3 false true false false):=by
 obtain ⟨places,hx⟩:=qii os enc
 refine returnsInHanded_of_row (C:=Tryz.checked) (s:=Rows.OpenSpec.upto Rows.verifyCompiledSpec) own started (by kernel_rfl) Tryz.func3
  (qjP (enc:=enc) (C:=Tryz.checked) false (World.laidAll Tryz.prog os Rows.verifyCompiledUptoRow.laid) #[.slice none 0 0] (World.laidAll_os _ _ _) (World.shaped_of_ZipB (by kernel_rfl) (by kernel_rfl)) (by kernel_rfl)
   (OpenSpec.preRow_of_cond 8 hx (by kernel_rfl) (fun k hk=>by cases hk; kernel_rfl) (by kernel_rfl) (laidMet_laidAll _ (by kernel_rfl) (by kernel_rfl)))) ?_
 intro W base args ds gs before hval hW _ hcond _ hL hsh _
 exact qhc hp H enc W base args ds gs before hval hW (hcond _ rfl) hL hsh
theorem qie (hp:∀ x0,(fun xs=>∀ y ∈ xs,(fun _=>True) y) x0 → (fun xs=>(xs.map Part.blk).sum + 1) x0 ≤ 1048576 → ∃ N,qbg N x0 = some true):Rows.VerifyCompiledUptoSaid :=
 OpenClaim.holds_of_cond 3 Tryz.f3 rfl rfl rfl rfl rfl rfl rfl ⟨rfl,rfl,rfl,rfl,rfl⟩ rfl rfl rfl rfl rfl (by kernel_rfl) Tryz.func3 (by kernel_rfl)
  (of_decide_eq_true (by kernel_rfl)) (by unfold Func.isWrapper; rw [if_neg (of_decide_eq_false (by kernel_rfl))]; exact ⟨rfl,rfl⟩)
  (fun os started H enc _ F=>by rw [OpenClaim.pre_eq_preRow]; exact qhW hp os started H enc F)
set_option maxRecDepth 100000 in
theorem qiS (hp:∀ x0,(fun xs=>∀ y ∈ xs,(fun _=>True) y) x0 → (fun xs=>(xs.map Part.blk).sum + 1) x0 ≤ 1048576 → ∃ N,qbg N x0 = some true):Rows.VerifyCompiledUptoCardSaid :=
 Claim7.holds_tied_plain_at .later [] [.data,.pinned] true (true, "c268f859d70b50a69abd168775085f8a3e8911110b3f75888d697c0c13b868b9") false (qie hp) (fun _ h=>by cases h) (by kernel_rfl) (fun _ h=>by cases h) verifyCompiledUpto_row_tie rfl ⟨rfl,rfl⟩ (by kernel_rfl) rfl
  (fun f fn hf hfn=>by
   obtain rfl:f = 3:=Option.some.inj ((show Tryz.prog.funcNamed "calque/calquelaw34.VerifyCompiled" = some 3 by kernel_rfl).symm.trans hf) |>.symm
   obtain rfl:fn = Tryz.f3:=(Option.some.inj (Tryz.func3.symm.trans hfn)).symm
   exact ⟨by kernel_rfl,fun j t ht=>by
    rw [Tryz.params3] at ht
    have hm:t ∈ [22]:=by simpa using Array.mem_of_getElem? ht
    have hall:([22].all fun u=>!Tryz.prog.wantsStandIn u) = true:=by kernel_rfl
    exact (show Tryz.prog.wantsStandIn t = false by simpa using List.all_eq_true.1 hall t hm)⟩)
  (by kernel_rfl)
end Go.Proofs.YtmghnmfefpeelaaGreatDoor
