/- A part. -/
import Derived.Test.YtdgneofhcenhfaaGreatDoorqb
set_option maxHeartbeats 16000000
set_option maxRecDepth 100000
set_option linter.all false
open And renaming intro->Φ
open Bool renaming and_eq_true->i6,not_eq_true'->Eg,or_eq_true->Ei
open ByteArray renaming mk->D
open Go renaming Calls->ν,Ending->aI,TypeId->aQ,Value->ε,World->Z,bodyPost_ret->Ω,maxLen->Χ,results->ag
open Go.Addr renaming mk->U
open Go.Builtin renaming len_->tC
open Go.Ending renaming returned->ξ
open Go.Instr renaming lookup->cw,mapUpdate->fB
open Go.IntKind renaming i64->E,u32->Λ
open Go.Lib renaming containsS->nV,hid->K,toList_data->iy
open Go.Maps renaming size->xL
open Go.Obj renaming cells->ζ
open Go.Proofs.Tryz renaming prog->δ,results157->Ex
open Go.RowKit renaming Hid->η,intOf->jE
open Go.RowKit.Hid renaming out->tJ
open Go.Value renaming agg->Μ,bool->ι,func->af,int->I,map->ω,pointer->π,slice->V,string->H,tuple->σ
open Go.World renaming alloc->bm
open List renaming getElem?_eq_getElem->cT,getElem?_eq_some_iff->iN,getElem?_map->ml,length_cons->eI,length_eq_zero_iff->kG,length_nil->eN,map_cons->lm,map_nil->nX,mem_of_getElem?->ln
open Nat renaming add_assoc->mW,le_refl->Ο,le_succ->cV,le_trans->aJ,zero_add->eP,zero_le->ai
open Option renaming none->A,some->N
open Option.some renaming injEq->xZ
open Go RowKit Lib Proofs.Tryz
namespace Go.Proofs.YtdgneofhcenhfaaGreatDoor
attribute [local go_sem ↓] wp_at_zero wp_at_succ
def nU(a:BA):Bool:= !a.toList.isEmpty&&decide (a.size<=40)&&gD a==0
def um(a:BA):Bool:=a.toList.isEmpty||iF a
def pZ(a:BA):Bool:= !a.toList.isEmpty&&um a
def zE(a:BA):Bool:=(fQ a).isSome&&decide (1<=(fQ a).getD 0)&&decide ((fQ a).getD 0<=1000000)
variable{w n G:Z}{x i t B:ε}{y k d M:Nat}{m C:Int}{j:Bs}{a:List ε}{f:Bool}{p:BA}{q:Array ε}{u:aQ}{o:List It}{Q:El}{W:At}
theorem RQ(i:aT w)(a:BA)(n:a.size<=1000000000):ν δ 230 #[H a] w λg l=>g=ξ (ι (nU a))/\Y w l γ:=by
 have h:=K (uj a (by omega) w i);have b:=K (show nU a=(!a.toList.isEmpty&&decide (a.size<=40)&&gD a==0) from rfl);generalize nU a=f at*;generalize gD a=k at*;go_enter func230,ntmps230;cases d:a.toList.isEmpty
 .by_cases m:(a.size:Int)<=40
  .have e:a.size<=40:=by omega
   have c:=K (show f=(k==0) from by rw[b.out,d];simp[e]);clear b;go_wp2_with fail;refine h.out.mono ?_;rintro g o ⟨rfl,j⟩;go_wp2;go_ret;exact⟨by rw[c.out];rfl,j⟩
  have e:¬a.size<=40:=by omega
  have c:=K (show f=false from by rw[b.out,d];simp[e]);clear b;go_wp2;go_ret;exact⟨by rw[c.out];rfl,Y.refl _ _⟩
 have c:=K (show f=false from by rw[b.out,d];rfl);clear b;go_wp2;go_ret;exact⟨by rw[c.out];rfl,Y.refl _ _⟩
theorem WH(d:aT w)(a:BA)(h:a.size<=1000000000):ν δ 232 #[H a] w λb f=>b=ξ (ι (fQ a).isSome)/\Y w f γ:=by have c:=K (Jw a (by omega) w d);generalize(fQ a).getD 0=i at*;generalize(fQ a).isSome=g at*;go_enter func232,ntmps232;go_wp2_with fail;refine c.out.mono ?_;rintro b j ⟨rfl,e⟩;go_wp2;go_ret;exact⟨rfl,e⟩
theorem abG(k:aT w)(a:BA)(m:a.size<=1000000000):ν δ 285 #[H a] w λf l=>f=ξ (ι (zE a))/\Y w l γ:=by
 have i:=K (Jw a (by omega) w k);have b:=K (show zE a=((fQ a).isSome&&decide (1<=(fQ a).getD 0)&&decide ((fQ a).getD 0<=1000000)) from rfl);generalize zE a=e at*;generalize(fQ a).getD 0=h at*;generalize(fQ a).isSome=j at*;go_enter func285,ntmps285;go_wp2_with fail;refine i.out.mono ?_;rintro f n ⟨rfl,d⟩;cases j with
 |false=>have c:=K (show e=false from by rw[b.out];rfl);clear b;go_wp2;go_ret;exact⟨by rw[c.out];rfl,d⟩
 |true=>
  by_cases g:1<=h
  .have c:=K (show e=decide (h<=1000000) from by rw[b.out];simp[g]);clear b;go_wp2;go_ret;exact⟨by rw[c.out];rfl,d⟩
  have c:=K (show e=false from by rw[b.out];simp[g]);clear b;go_wp2;go_ret;exact⟨by rw[c.out];rfl,d⟩
theorem UN(j:aT w)(a:BA)(k:a.size<=1000000):ν δ 227 #[H a] w λd l=>d=ξ (ι (um a))/\Y w l γ:=by
 have h:=K (J9 a w j k);have b:=K (show um a=(a.toList.isEmpty||iF a) from rfl);generalize um a=g at*;generalize fZ a=n at*;generalize gy a=m at*;generalize iF a=i at*;go_enter func227,ntmps227;go_wp2_with fail;refine h.out.mono ?_;rintro d o ⟨rfl,f⟩;cases e:a.toList.isEmpty
 .have c:=K (show g=i from by rw[b.out,e];rfl);clear b;go_wp2;go_ret;exact⟨by rw[c.out];rfl,f⟩
 have c:=K (show g=true from by rw[b.out,e];rfl);clear b;go_wp2;go_ret;exact⟨by rw[c.out];rfl,f⟩
theorem acj(i:aT w)(a:BA)(j:a.size<=1000000):ν δ 226 #[H a] w λd l=>d=ξ (ι (pZ a))/\Y w l γ:=by
 have g:=K (UN i a j);have b:=K (show pZ a=(!a.toList.isEmpty&&um a) from rfl);generalize pZ a=f at*;generalize um a=h at*;go_enter func226,ntmps226;cases e:a.toList.isEmpty
 .have c:=K (show f=h from by rw[b.out,e];rfl);clear b;go_wp2_with fail;refine g.out.mono ?_;rintro d m ⟨rfl,k⟩;go_wp2;go_ret;exact⟨by rw[c.out];rfl,k⟩
 have c:=K (show f=false from by rw[b.out,e];rfl);clear b;go_wp2;go_ret;exact⟨by rw[c.out];rfl,Y.refl _ _⟩
def yE(d:Z)(c:Nat)(b:List BA):Prop:=∀a,a<b.length->d.cell? (U c a A)=N (H (b.getD a ByteArray.empty))
theorem Ig{w:Z}{g c:Nat}{zs:List BA}:ν δ 225 #[V (N (U g 0 A)) zs.length c] w λh d=>∃a,h=ξ (af (.func 284) #[] #[π (N (U a 0 A))])/\d.cell? (U a 0 A)=N (V (N (U g 0 A)) zs.length c)/\w.heap.size<=a/\a<d.heap.size/\Y w d γ:=by have e:=θ.new w 26 #[V (N (U g 0 A)) zs.length c];have f:Y w (w.alloc (ζ #[V (N (U g 0 A)) zs.length c] 26)) γ:=(Y.refl w γ).alloc _;have b:=K (Φ e f);clear e f;go_enter func225,ntmps225;go_wp2;go_ret;exact⟨_,rfl,b.out.1.cell 0,Ο _,b.out.1.lt,b.out.2⟩
theorem If{zs:List BA}(i:w.cell? (U y 0 A)=N (V (N (U k 0 A)) zs.length d))(e:yE w k zs)(j:zs.length<=1000)(a:BA):ν δ 284 #[H a,π (N (U y 0 A))] w λc h=>c=ξ (ι (nV zs a))/\h=w:=by have b:=K (agC k 0 zs.length d zs a w (Ο _) (by omega) (λg f=>by rw[eP];exact e g f));rw[List.take_length] at b;clear e;go_enter func284,ntmps284;go_wp2_with (go_at_call 73;refine b.out.mono ?_;rintro c l ⟨rfl,rfl⟩);go_ret;exact⟨rfl,rfl⟩
def bK(a:At)(nm:Bt):BA:=⟨((gi a nm).getD []).toArray⟩
theorem Ac(a:bX w j Q x i)(m:Q.Γ.length<=1000)(nm:Bt):ν δ 229 #[bM Q x i,H (D nm.toArray)] w λg o=>g=ξ (H (bK Q.Γ nm))/\Y w o γ:=by obtain⟨⟨f,e,rfl⟩,d,c,rfl⟩:=a.form;have b:Y w (w.alloc (ζ #[H (D Q.name.toArray),V f Q.Γ.length e,H (D Q.Β.toArray),V d Q.Ξ.length c] 84)) γ:=(Y.refl w γ).alloc _;have h:=K (Kb (n:=Q.name) (x:=Q.Β) (nm:=nm) (kp:=d) (kn:=Q.Ξ.length) (kc:=c) (a.Γ.keeps b λ_ _ a=>a) m);have l:=K b;obtain⟨s,t,u,y⟩:=aj (θ.new w 84 #[H (D Q.name.toArray),V f Q.Γ.length e,H (D Q.Β.toArray),V d Q.Ξ.length c]);have k:=K (show(⟨((gi Q.Γ nm).getD []).toArray⟩:BA)=bK Q.Γ nm from rfl);simp only[bM,we] at*;generalize(⟨((gi Q.Γ nm).getD []).toArray⟩:BA)=q at*;generalize(gi Q.Γ nm).isSome=p at*;clear a b;go_enter func229,ntmps229;go_wp2_with fail;refine h.out.mono ?_;rintro g r ⟨rfl,n⟩;go_wp2;go_ret;exact⟨by rw[<-k.out];rfl,l.out.trans n Η⟩
theorem LC{nm v:Bt}(a:gi W nm=N v):(nm,v)∈W:=by
 unfold gi at a;cases b:W.find? λd=>d.1==nm with
 |none=>rw[b] at a;cases a
 |some f=>rw[b] at a;injection a with a;have e:=List.mem_of_find?_eq_some b;have c:=List.find?_some b;obtain⟨g,h⟩:=f;simp only[beq_iff_eq] at c;simp only at a;subst c a;exact e
theorem D7(a:∀b∈W,b.2.length<=y)(nm:Bt):(bK W nm).size<=y:=by
 unfold bK;rw[iV];cases hv:gi W nm with
 |none=>exact ai _
 |some v=>exact a _ (LC hv)
theorem NR(a:bX w j Q x i)(t:Q.Γ.length<=1000)(k:∀B∈Q.Γ,B.2.length<=1000000)(h:aT w)(nm:Bt):ν δ 233 #[bM Q x i,H (D nm.toArray)] w λc z=>c=ξ (I Λ ((fQ (bK Q.Γ nm)).getD 0))/\Y w z γ:=by obtain⟨⟨g,f,rfl⟩,n,m,rfl⟩:=a.form;have b:Y w (w.alloc (ζ #[H (D Q.name.toArray),V g Q.Γ.length f,H (D Q.Β.toArray),V n Q.Ξ.length m] 84)) γ:=(Y.refl w γ).alloc _;have s:=K (Ac (a.keeps b λ_ _ a=>a) t nm);have E:=D7 k nm;have r:=K (λe (u:Y w e γ)=>Jw (bK Q.Γ nm) (by omega) e (h.still u));have p:=K b;obtain⟨J,L,M,N⟩:=aj (θ.new w 84 #[H (D Q.name.toArray),V g Q.Γ.length f,H (D Q.Β.toArray),V n Q.Ξ.length m]);simp only[bM] at*;generalize bK Q.Γ nm=o at*;generalize(fQ o).getD 0=F at*;generalize(fQ o).isSome=C at*;clear a b h k;go_enter func233,ntmps233;go_wp2_with fail;refine s.out.mono ?_;rintro c A ⟨rfl,l⟩;have d:=K (p.out.trans l Η);have q:=K (r.out A d.out);clear l;go_wp2_with fail;refine q.out.mono ?_;rintro c G ⟨rfl,y⟩;go_wp2;go_ret;exact⟨rfl,d.out.trans y Η⟩
abbrev cO:=BA->Bool
def gZ(j:Z)(h:ε)(g:cO):Prop:=∃(a:Nat) (d:Array ε),h=af (.func a) #[] d/\(∀args e,(callFunc a args).run δ e= .ok (.enter a args) e)/\∀b,Y j b γ->∀c:BA,c.size<=10000->ν δ a (#[H c]++d) b λf i=>f=ξ (ι (g c))/\Y b i γ
theorem gZ.keeps{w b:Z}{a:cO}(e:gZ w x a)(i:Y w b γ):gZ b x a:=by obtain⟨d,k,f,g,h⟩:=e;exact⟨d,k,f,g,λc j=>h c (i.trans j Η)⟩
def TM(h:Z)(v:ε)(c:BA->Option cO):Prop:=(v=ω A/\∀a,c a=A)\/∃d e b,v=ω (N d)/\aC bR h d b e/\e<=1000/\∀a,(b a=A/\c a=A)\/∃g f,b a=N g/\c a=N f/\gZ h g f
variable{P:BA→Option cO}
theorem TM.keeps{w d:Z}(a:TM w x P)(c:Y w d γ):TM d x P:=by
 obtain a|⟨b,n,m,rfl,h1,h2,h3⟩:=a
 .exact .inl a
 refine .inr ⟨b,n,m,rfl,h1.keeps c id,h2,λe=> ?_⟩;obtain a|⟨tv,p,q1,q2,q3⟩:=h3 e
 .exact .inl a
 exact .inr ⟨tv,p,q1,q2,q3.keeps c⟩
theorem tg:prog.underlying 235=N (.map 9 92):=by kernel_rfl
theorem Sg:∀a:Z,Sem.run δ (zeroValue 92) a= .ok .nilFunc a:=λ_=>by kernel_rfl
theorem TM.look{v:ε}(f:TM w v P)(x:BA)(o:x.size<=1000000):(P x=A/\(cw 235 v (H x) true).run δ w= .ok (σ #[.nilFunc,ι false]) w/\(cw 235 v (H x) false).run δ w= .ok .nilFunc w)\/∃a b c,P x=N c/\gZ w (af (.func a) #[] b) c/\(cw 235 v (H x) true).run δ w= .ok (σ #[af (.func a) #[] b,ι true]) w/\(cw 235 v (H x) false).run δ w= .ok (af (.func a) #[] b) w:=by
 have j:bR.ok x:=by show x.size<=Χ;unfold Χ;omega
 obtain⟨rfl,f⟩|⟨m,q,p,rfl,i,n,l⟩:=f
 .exact .inl ⟨f x,by kernel_rfl,by kernel_rfl⟩
 have d:=i.look_ok dG (t:=235) (e:=92) tg (Sg w) (x:=x) j;have e:=i.look dG (t:=235) (e:=92) tg (Sg w) (x:=x) j;obtain⟨g,h⟩|⟨r,c,g,h,k⟩:=l x
 .rw[g] at d e;exact .inl ⟨h,d,e⟩
 rw[g] at d e;obtain⟨a,b,rfl,_⟩:=id k;exact .inr ⟨a,b,c,h,k,d,e⟩
def jC(d c:BA->Option cO)(b:BA):Option (Int×cO):=match d b with
 |some a=>N (1,a)
 |none=>match c b with
  |some a=>N (0,a)
  |none=>A
def nN:List BA->BA->Bool
 |[],_=>false
 |c::b,a=>decide (c=a)||nN b a
def dU(c b:BA->Option cO):Int->List BA->At->Option Int
 |left,_,[]=>N left
 |left,seen,(a,v)::e=>match jC c b ⟨a.toArray⟩ with
  |none=>A
  |some (d,f)=>if f ⟨v.toArray⟩&& !nN seen ⟨a.toArray⟩ then dU c b (left-d) ((D a.toArray)::seen) e else A
def ns(f:Z)(e:Nat)(c:List BA)(d:Nat):Prop:=∃a,aC bR f e a d/\∀b,a b=if nN c b then N (ι true) else A
theorem ns.keeps{w b:Z}{a:List BA}{F:Bs}(d:ns w y a k)(c:Y w b F)(g:¬F y):ns b y a k:=by obtain⟨h,e,f⟩:=d;exact⟨h,e.keeps c g,f⟩
theorem ns.look{a:List BA}(b:ns w y a k)(x:BA)(f:x.size<=1000000):(cw 346 (ω (N y)) (H x) false).run δ w= .ok (ι (nN a x)) w:=by obtain⟨g,c,d⟩:=b;have:=c.look dG (t:=346) (e:=4) DY (Sa w) (x:=x) (by show x.size<=Χ;unfold Χ;omega);rw[d] at this;cases e:nN a x<;>rw[e] at this<;>exact this
theorem ns.store{b:List BA}(d:ns w y b k)(x:BA)(m:x.size<=1000000)(l:k<=1000000):∃a,(fB 346 (ω (N y)) (H x) (ι true)).run δ w= .ok () a/\ns a y (x::b) (k+1)/\Y w a (·=y):=by
 obtain⟨n,f,g⟩:=d;obtain⟨a,j,i,h⟩:=f.store dG (t:=346) (e:=4) DY (by unfold Χ;omega) (x:=x) (by show x.size<=Χ;unfold Χ;omega) (ι true);refine⟨a,j,⟨_,i,λc=> ?_⟩,h⟩;by_cases e:c=x
 .subst e;rw[dJ];simp[nN]
 rw[dI _ _ _ _ e,g c];simp[nN,Ne.symm e]
theorem YG(b:Nat)(c:Array ε)(a:Z):(binOp .eql 92 (af (.func b) #[] c) .nilFunc).run δ a= .ok (ι false) a:=by kernel_rfl
theorem abA(a:Z):(binOp .eql 92 .nilFunc .nilFunc).run δ a= .ok (ι true) a:=by kernel_rfl
def qA(a:At):Prop:=a.length<=1000/\∀b∈a,b.1.length<=10000/\b.2.length<=10000
theorem yT{o1 o2:Option Nat}{mu ma:BA->Option cO}{L0:Int}(B:bX w j Q x i)(bc:qA Q.Γ)(bi:TM w (ω o1) mu)(bf:TM w (ω o2) ma)(cs:0<=L0/\L0<=1000)(bd:∀ao,Y w ao γ->(tC #[235] 3 #[ω o1]).run δ ao= .ok (I E L0) ao):ν δ 228 #[Μ #[ω o1,ω o2],bM Q x i] w λa2 cm=>a2=ξ (ι (decide (dU mu ma L0 [] Q.Γ=N 0)))/\Y w cm γ:=by
 obtain⟨⟨p,o,rfl⟩,u,t,rfl⟩:=B.form;have cy:= @run_makeMap δ;have a0:Y w ((w.alloc (ζ #[ω o1,ω o2] 237)).alloc (ζ #[H (D Q.name.toArray),V p Q.Γ.length o,H (D Q.Β.toArray),V u Q.Ξ.length t] 84)) γ:=((Y.refl w γ).alloc _).alloc _;have ap:θ ((w.alloc (ζ #[ω o1,ω o2] 237)).alloc (ζ #[H (D Q.name.toArray),V p Q.Γ.length o,H (D Q.Β.toArray),V u Q.Ξ.length t] 84)) w.heap.size 237 #[ω o1,ω o2]:=(θ.new _ _ _).alloc _;have bb:θ ((w.alloc (ζ #[ω o1,ω o2] 237)).alloc (ζ #[H (D Q.name.toArray),V p Q.Γ.length o,H (D Q.Β.toArray),V u Q.Ξ.length t] 84)) (w.heap.size+1) 84 #[H (D Q.name.toArray),V p Q.Γ.length o,H (D Q.Β.toArray),V u Q.Ξ.length t]:=θ.dA _ _ _ _;have bq:=ap.cell 0;have T:=(bb.alloc (.map #[] 0)).cell 1;simp only[gz_] at bq T;have b4:=bd _ a0;have bk:((w.alloc (ζ #[ω o1,ω o2] 237)).alloc (ζ #[H (D Q.name.toArray),V p Q.Γ.length o,H (D Q.Β.toArray),V u Q.Ξ.length t] 84)).heap.size=w.heap.size+1+1:=by simp
 have ad:η (ns (((w.alloc (ζ #[ω o1,ω o2] 237)).alloc (ζ #[H (D Q.name.toArray),V p Q.Γ.length o,H (D Q.Β.toArray),V u Q.Ξ.length t] 84)).alloc (.map #[] 0)) (w.heap.size+1+1) [] 0/\Y w (((w.alloc (ζ #[ω o1,ω o2] 237)).alloc (ζ #[H (D Q.name.toArray),V p Q.Γ.length o,H (D Q.Β.toArray),V u Q.Ξ.length t] 84)).alloc (.map #[] 0)) γ/\θ (((w.alloc (ζ #[ω o1,ω o2] 237)).alloc (ζ #[H (D Q.name.toArray),V p Q.Γ.length o,H (D Q.Β.toArray),V u Q.Ξ.length t] 84)).alloc (.map #[] 0)) w.heap.size 237 #[ω o1,ω o2]):=K ⟨⟨_,bk▸aC.made bR _,λe=>rfl⟩,a0.alloc _,ap.alloc _⟩;have bx:=K B.Γ;have a5:=K bc;have a7:=K (Φ bi bf);simp only[bM] at*;generalize Q.Γ=a at*;clear a0 ap bb bk bd B bc bi bf;go_enter func228,ntmps228;go_wp2;clear bq T b4;generalize(((w.alloc (ζ #[ω o1,ω o2] 237)).alloc (ζ #[H (D Q.name.toArray),V p a.length o,H (D Q.Β.toArray),V u Q.Ξ.length t] 84)).alloc (.map #[] 0))=co at*;have cB:=YG;have cD:=abA;have cA:∀(e:Bool) (w:Z),(Op.unary .not (ι e)).run δ w= .ok (ι (!e)) w:=λ_ _=>rfl;go_loopw [18,5,8,9,10] (λaw ck _ _ _ wr=>∃(c:Nat) (left:Int) (d:List BA),aw=I E c/\ck=I E left/\c<=a.length/\L0-c<=left/\left<=L0/\η (ns wr (w.heap.size+1+1) d c/\Y w wr γ/\θ wr w.heap.size 237 #[ω o1,ω o2]/\dU mu ma L0 [] a=dU mu ma left d (a.drop c))) (λaw _ _ _ _ _=>a.length-(jE aw).toNat)
 case atStart=>exact⟨0,L0,[],rfl,rfl,ai _,by omega,by omega,K ⟨ad.out.1,ad.out.2.1,ad.out.2.2,rfl⟩⟩
 obtain⟨c,left,d,rfl,rfl,ct,cv,cx,y⟩:=hrel;by_cases be:c<a.length
 .have b5:(c:Int)<a.length:=by omega
  obtain⟨e,m⟩:∃e,a[c]? =N e:=⟨_,cT be⟩;obtain⟨a9,bn,_,_,_,⟨cq,b1,_,_⟩,au⟩:=(bx.out.keeps y.out.2.1 λ_ _ B=>B).cell be;injection b1 with T bF bN;subst T bN;obtain⟨bs,bt⟩:=yI a c e m;have bA:wr.cell? ⟨a9,bn+c*2,A⟩=_:=au _ _ bs;have bB:wr.cell? ⟨a9,bn+c*2+1,A⟩=_:=au _ _ bt;obtain⟨cg,ch⟩:=a5.out.2 e (ln m);have cu:c<=1000:=by have:=a5.out.1;omega
  have bv:=K (show a.drop c=e::a.drop (c+1) from by obtain⟨q,L⟩:=iN.1 m;rw[List.drop_eq_getElem_cons q,L]);clear au bs bt m bF;obtain⟨b,l⟩:=e;simp only at bA bB cg ch;have cn:=iV b;have cI:=iV l;have W:Y wr (wr.alloc (ζ #[H (D b.toArray),H (D l.toArray)] 231)) γ:=(Y.refl wr γ).alloc _;have ba:θ (wr.alloc (ζ #[H (D b.toArray),H (D l.toArray)] 231)) wr.heap.size 231 #[H (D b.toArray),H (D l.toArray)]:=θ.new _ _ _;have X:=y.out.2.1.trans W Η;have br:=y.out.1.keeps W id;have S:=W.blk y.out.2.2.1 id;have ce:=S.cell 0;have cf:=S.cell 1;simp only[gz_] at ce cf
  have ac:=K (show dU mu ma L0 [] a=(match jC mu ma ⟨b.toArray⟩ with
   |none=>A
   |some (bE,cl)=>if cl ⟨l.toArray⟩&& !nN d ⟨b.toArray⟩ then dU mu ma (left-bE) ((D b.toArray)::d) (a.drop (c+1)) else A) from by rw[y.out.2.2.2,bv.out];rfl)
  have R:jC mu ma ⟨b.toArray⟩=A->decide (dU mu ma L0 [] a=N 0)=false:=λB=>by rw[ac.out,B];rfl
  have z:=K (Φ X (Φ br S));have a6:=K ba;have bz:=a7.out.1.keeps X |>.look ⟨b.toArray⟩ (by omega);have a8:=a7.out.2.keeps X |>.look ⟨b.toArray⟩ (by omega);clear W ba X br S cn;obtain⟨C,b7,ab⟩|⟨b2,b9,F,C,tst,b7,ab⟩:=bz
  .obtain⟨P,a1,b8⟩|⟨b2,b9,F,P,tst,a1,b8⟩:=a8
   .have n:=K (R (by unfold jC;rw[C,P]));clear R C P ab a1;go_wp2;go_ret;exact⟨by rw[n.out];rfl,z.out.1⟩
   have an:=K (show jC mu ma ⟨b.toArray⟩=N (0,F) from by unfold jC;rw[C,P]);obtain⟨b3,cb,av,b0,M⟩:=tst;injection av with q L aq;injection q with q;subst q aq;have am:=K (M _ (Y.refl _ _) ⟨l.toArray⟩ (by omega));have f:=K (show dU mu ma L0 [] a=(if F ⟨l.toArray⟩&& !nN d ⟨b.toArray⟩ then dU mu ma (left-0) ((D b.toArray)::d) (a.drop (c+1)) else A) from by rw[ac.out,an.out]);clear R C P ab a1 M L;go_wp2_with fail;refine am.out.mono ?_;rintro a2 a4 ⟨rfl,k⟩;have g:=K (Φ (z.out.1.trans k Η) (Φ (z.out.2.1.keeps k id) (k.blk z.out.2.2 id)));have cc:a4.cell? (U wr.heap.size 0 A)=N (H (D b.toArray)):=(k.blk a6.out id).cell 0;clear k;cases r:F ⟨l.toArray⟩ with
   |false=>have n:=K (show decide (dU mu ma L0 [] a=N 0)=false from by rw[f.out,r];rfl);clear f;go_wp2;go_ret;exact⟨by rw[n.out];rfl,g.out.1⟩
   |true=>
    have O:=g.out.2.1.look ⟨b.toArray⟩ (by rw[iV];omega);obtain⟨J,a3,G,s⟩:=g.out.2.1.store ⟨b.toArray⟩ (by rw[iV];omega) (by omega);cases h:nN d ⟨b.toArray⟩ with
    |true=>have n:=K (show decide (dU mu ma L0 [] a=N 0)=false from by rw[f.out,r,h];rfl);rw[h] at O;clear f a3 G s;go_wp2;go_ret;exact⟨by rw[n.out];rfl,g.out.1⟩
    |false=>
     rw[h] at O
     have al:=K (show ns J (w.heap.size+1+1) ((D b.toArray)::d) (c+1)/\Y w J γ/\θ J w.heap.size 237 #[ω o1,ω o2]/\dU mu ma L0 [] a=dU mu ma (left) ((D b.toArray)::d) (a.drop (c+1)) from
      ⟨G,g.out.1.trans s λe m=> .inr (by have m:e=_:=m;omega),s.blk g.out.2.2 (by omega),by rw[f.out,r,h];simp⟩)
     clear f G s r h;go_wp2;go_roundw
     case rel=>exact⟨c+1,left,_,by go_num,rfl,by omega,by omega,by omega,al⟩
     case measure=>simp[jE];omega
  clear a8;have an:=K (show jC mu ma ⟨b.toArray⟩=N (1,F) from by unfold jC;rw[C]);obtain⟨b3,cb,av,b0,M⟩:=tst;injection av with q L aq;injection q with q;subst q aq;have am:=K (M _ (Y.refl _ _) ⟨l.toArray⟩ (by omega));have f:=K (show dU mu ma L0 [] a=(if F ⟨l.toArray⟩&& !nN d ⟨b.toArray⟩ then dU mu ma (left-1) ((D b.toArray)::d) (a.drop (c+1)) else A) from by rw[ac.out,an.out]);clear R C ab M L;go_wp2_with fail;refine am.out.mono ?_;rintro a2 a4 ⟨rfl,k⟩;have g:=K (Φ (z.out.1.trans k Η) (Φ (z.out.2.1.keeps k id) (k.blk z.out.2.2 id)));have cc:a4.cell? (U wr.heap.size 0 A)=N (H (D b.toArray)):=(k.blk a6.out id).cell 0;clear k;cases r:F ⟨l.toArray⟩ with
  |false=>have n:=K (show decide (dU mu ma L0 [] a=N 0)=false from by rw[f.out,r];rfl);clear f;go_wp2;go_ret;exact⟨by rw[n.out];rfl,g.out.1⟩
  |true=>
   have O:=g.out.2.1.look ⟨b.toArray⟩ (by rw[iV];omega);obtain⟨J,a3,G,s⟩:=g.out.2.1.store ⟨b.toArray⟩ (by rw[iV];omega) (by omega);cases h:nN d ⟨b.toArray⟩ with
   |true=>have n:=K (show decide (dU mu ma L0 [] a=N 0)=false from by rw[f.out,r,h];rfl);rw[h] at O;clear f a3 G s;go_wp2;go_ret;exact⟨by rw[n.out];rfl,g.out.1⟩
   |false=>
    rw[h] at O
    have al:=K (show ns J (w.heap.size+1+1) ((D b.toArray)::d) (c+1)/\Y w J γ/\θ J w.heap.size 237 #[ω o1,ω o2]/\dU mu ma L0 [] a=dU mu ma (left-1) ((D b.toArray)::d) (a.drop (c+1)) from
     ⟨G,g.out.1.trans s λe m=> .inr (by have m:e=_:=m;omega),s.blk g.out.2.2 (by omega),by rw[f.out,r,h];simp⟩)
    clear f G s r h;have b6:wrap64 (left-1)=left-1:=IntWalk.wrap64_in _ ⟨by omega,by omega⟩;go_wp2;go_roundw
    case rel=>exact⟨c+1,left-1,_,by go_num,by first|rfl|rw[b6],by omega,by omega,by omega,al⟩
    case measure=>simp[jE];omega
 obtain rfl:c=a.length:=by omega
 have b5:¬(a.length:Int)<a.length:=by omega
 have bw:=K (show decide (dU mu ma L0 [] a=N 0)=(left==0) from by rw[y.out.2.2.2,List.drop_length];simp[dU];rfl);go_wp2;go_ret;exact⟨by rw[bw.out];rfl,y.out.2.1⟩
theorem Na:∀args a,(callFunc 284 args).run δ a= .ok (.enter 284 args) a:=enters_of func284 (by kernel_rfl) rfl
theorem XH:∀args a,(callFunc 226 args).run δ a= .ok (.enter 226 args) a:=enters_of func226 (by kernel_rfl) rfl
theorem abX{w:Z}{q g c:Nat}{zs:List BA}(d:w.cell? (U q 0 A)=N (V (N (U g 0 A)) zs.length c))(i:yE w g zs)(j:zs.length<=1000):gZ w (af (.func 284) #[] #[π (N (U q 0 A))]) (λa=>nV zs a):=
 ⟨284,_,rfl,Na,λl b a _=>(If (az b d id) (λk h=>az b (i k h) id) j a).mono λm n ⟨e,f⟩=>⟨e,by rw[f];exact Y.refl _ _⟩⟩
theorem ack(a:aT w):gZ w (af (.func 226) #[] #[]) pZ:=
 ⟨226,#[],rfl,XH,λd b c e=>acj (a.still b) c (by omega)⟩
def qJ(c h:Z)(d:Nat)(e:BA->Option cO)(i:Nat):Prop:=c.heap.size<=d/\Y c h γ/\∃b,aC bR h d b i/\∀a,(b a=A/\e a=A)\/∃g f,b a=N g/\e a=N f/\gZ c g f
def eF(_:BA):Option cO:=A
noncomputable def ed(c:BA->Option cO)(b:BA)(d:cO):BA->Option cO:=λa=>if a=b then N d else c a
theorem qJ.made(b:Z)(a:Y b w γ):qJ b (w.alloc (.map #[] 0)) w.heap.size eF 0:=⟨a.size,a.alloc _,_,aC.made bR w,λ_=> .inl ⟨rfl,rfl⟩⟩
theorem qJ.ins(g:qJ w n y P k){c:cO}(q:gZ w x c)(a:BA)(s:a.size<=1000)(r:k<=1000):∃d,(fB 235 (ω (N y)) (H a) x).run δ n= .ok () d/\qJ w d y (ed P a c) (k+1):=by
 obtain⟨h,i,t,j,l⟩:=g;obtain⟨d,p,o,m⟩:=j.store dG (t:=235) (e:=92) tg (by unfold Χ;omega) (x:=a) (by show a.size<=Χ;unfold Χ;omega) x;refine⟨d,p,h,i.trans m λb f=> .inr (by have f:b=y:=f;omega),_,o,λb=> ?_⟩;by_cases e:b=a
 .subst e;exact .inr ⟨x,c,dJ _ _ _,by simp[ed],q⟩
 rw[dI _ _ _ _ e];have:ed P a c b=P b:=by simp[ed,e]
 rw[this];exact l b
theorem qJ.tm(a:qJ w n y P k)(e:k<=1000):TM n (ω (N y)) P:=by
 obtain⟨h,b,f,c,d⟩:=a;refine .inr ⟨y,k,f,rfl,c,e,λg=> ?_⟩;obtain a|⟨tv,p,q1,q2,q3⟩:=d g
 .exact .inl a
 exact .inr ⟨tv,p,q1,q2,q3.keeps b⟩
theorem TM.nil(a:Z):TM a (ω A) eF:= .inl ⟨rfl,λ_=>rfl⟩
theorem Hv(a:Z):(tC #[235] 3 #[ω A]).run δ a= .ok (I E 0) a:=by kernel_rfl
def mi:List BA:=[(D #[117,110,97,118,97,105,108,97,98,108,101]),(D #[115,117,98,115,99,114,105,98,101]),(D #[115,117,98,115,99,114,105,98,101,100]),(D #[117,110,115,117,98,115,99,114,105,98,101]),(D #[117,110,115,117,98,115,99,114,105,98,101,100])]
def ri:List BA:=[(D #[97,119,97,121]),(D #[99,104,97,116]),(D #[100,110,100]),(D #[120,97])]
def pU:BA:=(D #[116,121,112,101])
def pS:BA:=(D #[102,114,111,109])
def pT:BA:=(D #[116,111])
noncomputable def wX:BA->Option cO:=ed (ed (ed eF pU (λa=>nV mi a)) pS pZ) pT pZ
def z0:cp:=⟨0,(D #[]),(D #[]),(D #[]),(D #[]),(D #[]),(D #[]),(D #[]),0,0,false,[]⟩
theorem I8{zs:List BA}(c:θ w y k q)(b:q.toList=zs.map H):yE w y zs:=λd a=>by rw[c.cell,<-Array.getElem?_toList,b,ml,cT a,List.getD_eq_getElem?_getD,cT a];rfl
theorem dj(a:θ w y k q):w.frozen? (U y 0 A)=false/\w.frozen? (U y 1 A)=false/\w.frozen? (U y 2 A)=false/\w.frozen? (U y 3 A)=false/\w.frozen? (U y 4 A)=false/\w.frozen? (U y 5 A)=false/\w.frozen? (U y 6 A)=false/\w.frozen? (U y 7 A)=false/\w.frozen? (U y 8 A)=false/\w.frozen? (U y 9 A)=false/\w.frozen? (U y 10 A)=false/\w.frozen? (U y 11 A)=false:=⟨a.frozen 0,a.frozen 1,a.frozen 2,a.frozen 3,a.frozen 4,a.frozen 5,a.frozen 6,a.frozen 7,a.frozen 8,a.frozen 9,a.frozen 10,a.frozen 11⟩
def iJ(n:Z)(a:Nat)(b c f g h i j k l m d e:ε):Z:=(((((((((((n.setCell (U a 0 A) b).setCell (U a 1 A) c).setCell (U a 2 A) f).setCell (U a 3 A) g).setCell (U a 4 A) h).setCell (U a 5 A) i).setCell (U a 6 A) j).setCell (U a 7 A) k).setCell (U a 8 A) l).setCell (U a 9 A) m).setCell (U a 10 A) d).setCell (U a 11 A) e
theorem qa{g:Nat}{a0 a1 a2 a3 a4 a5 a6 a7 a8 a9 a10 a11:ε}{F:Bs}(b:Y w n F)(a:F g\/w.heap.size<=g):Y w (iJ n g a0 a1 a2 a3 a4 a5 a6 a7 a8 a9 a10 a11) F:=
 (((((((((((b.χ (p:=(U g 0 A)) a _).χ (p:=(U g 1 A)) a _).χ (p:=(U g 2 A)) a _).χ (p:=(U g 3 A)) a _).χ (p:=(U g 4 A)) a _).χ (p:=(U g 5 A)) a _).χ (p:=(U g 6 A)) a _).χ (p:=(U g 7 A)) a _).χ (p:=(U g 8 A)) a _).χ (p:=(U g 9 A)) a _).χ (p:=(U g 10 A)) a _).χ (p:=(U g 11 A)) a _
theorem wZ{c d e f g h a b a0 a1 a2 a3 a4 a5 a6 a7 a8 a9 a10 a11:ε}(j:θ w y u #[x,i,t,B,c,d,e,f,g,h,a,b]):θ (iJ w y a0 a1 a2 a3 a4 a5 a6 a7 a8 a9 a10 a11) y u #[a0,a1,a2,a3,a4,a5,a6,a7,a8,a9,a10,a11]:=
 ((((((((((((j.χ 0 _).χ 1 _).χ 2 _).χ 3 _).χ 4 _).χ 5 _).χ 6 _).χ 7 _).χ 8 _).χ 9 _).χ 10 _).χ 11 _).to (by simp)
def kZ(e:Z)(b:Nat)(a:cp)(v:Int)(d:Bool)(c:ε):Z:=iJ e b (I E a.Θ) (H a.bV) (H a.id) (H a.src) (H a.dst) (H a.cE) (H a.bQ) (H a.dK) (I Λ a.h) (I E v) (ι d) c
def Zc(b:Z)(a:Nat)(c:cp)(v:Int)(e:Bool)(d:ε):Prop:=b.cell? (U a 0 A)=N (I E c.Θ)/\b.cell? (U a 1 A)=N (H c.bV)/\b.cell? (U a 2 A)=N (H c.id)/\b.cell? (U a 3 A)=N (H c.src)/\b.cell? (U a 4 A)=N (H c.dst)/\b.cell? (U a 5 A)=N (H c.cE)/\b.cell? (U a 6 A)=N (H c.bQ)/\b.cell? (U a 7 A)=N (H c.dK)/\b.cell? (U a 8 A)=N (I Λ c.h)/\b.cell? (U a 9 A)=N (I E v)/\b.cell? (U a 10 A)=N (ι e)/\b.cell? (U a 11 A)=N d
theorem mS(c:cp)(v:Int)(b:Bool)(a:ε){f g h k l m d e:ε}(o:θ n y 171 #[x,i,t,B,f,g,h,k,l,m,d,e])(q:Y w n j)(p:j y\/w.heap.size<=y):η (Zc (kZ n y c v b a) y c v b a)/\η (Y w (kZ n y c v b a) j)/\η (Y n (kZ n y c v b a) (·=y)):=
 ⟨K (aS (wZ o)),K (qa q p),K (qa (Y.refl n _) (.inl rfl))⟩
def ez:ε:=Μ #[I E 0,H (D #[]),H (D #[]),H (D #[]),H (D #[]),H (D #[]),H (D #[]),H (D #[]),I Λ 0,I E 0,ι false,V A 0 0]
def ahI(a:Z)(b:Nat):Prop:=a.cell? (U b 0 A)=N (I E 0)/\a.cell? (U b 1 A)=N (H (D #[]))/\a.cell? (U b 2 A)=N (H (D #[]))/\a.cell? (U b 3 A)=N (H (D #[]))/\a.cell? (U b 4 A)=N (H (D #[]))/\a.cell? (U b 5 A)=N (H (D #[]))/\a.cell? (U b 6 A)=N (H (D #[]))/\a.cell? (U b 7 A)=N (H (D #[]))/\a.cell? (U b 8 A)=N (I Λ 0)/\a.cell? (U b 9 A)=N (I E 0)/\a.cell? (U b 10 A)=N (ι false)/\a.cell? (U b 11 A)=N (V A 0 0)
theorem kh{c d e f g h a b:ε}(k:θ n y 171 #[x,i,t,B,c,d,e,f,g,h,a,b])(m:Y w n j)(l:j y\/w.heap.size<=y):η (ahI ((((((((((((n.setCell (U y 0 A) (I E 0)).setCell (U y 1 A) (H (D #[]))).setCell (U y 2 A) (H (D #[]))).setCell (U y 3 A) (H (D #[]))).setCell (U y 4 A) (H (D #[]))).setCell (U y 5 A) (H (D #[]))).setCell (U y 6 A) (H (D #[]))).setCell (U y 7 A) (H (D #[]))).setCell (U y 8 A) (I Λ 0)).setCell (U y 9 A) (I E 0)).setCell (U y 10 A) (ι false)).setCell (U y 11 A) (V A 0 0)) y)/\η (Y w ((((((((((((n.setCell (U y 0 A) (I E 0)).setCell (U y 1 A) (H (D #[]))).setCell (U y 2 A) (H (D #[]))).setCell (U y 3 A) (H (D #[]))).setCell (U y 4 A) (H (D #[]))).setCell (U y 5 A) (H (D #[]))).setCell (U y 6 A) (H (D #[]))).setCell (U y 7 A) (H (D #[]))).setCell (U y 8 A) (I Λ 0)).setCell (U y 9 A) (I E 0)).setCell (U y 10 A) (ι false)).setCell (U y 11 A) (V A 0 0)) j):=
 ⟨K (aS (wZ k)),K (qa m l)⟩
def yz(c b:Z)(a:Nat):Prop:=c.heap.size<=a/\θ b a 171 #[I E 0,H (D #[]),H (D #[]),H (D #[]),H (D #[]),H (D #[]),H (D #[]),H (D #[]),I Λ 0,I E 0,ι false,V A 0 0]
theorem yz.keeps(a:yz w n y)(b:Y n G γ):yz w G y:=⟨a.1,b.blk a.2 id⟩
theorem C6(a:η (Y w n γ)):yz w (n.alloc (ζ #[I E 0,H (D #[]),H (D #[]),H (D #[]),H (D #[]),H (D #[]),H (D #[]),H (D #[]),I Λ 0,I E 0,ι false,V A 0 0] 171)) n.heap.size:=⟨a.out.size,θ.new _ _ _⟩
theorem Ib{w6:Z}:yz w6 (w6.alloc (ζ #[I E 0,H (D #[]),H (D #[]),H (D #[]),H (D #[]),H (D #[]),H (D #[]),H (D #[]),I Λ 0,I E 0,ι false,V A 0 0] 171)).drew w6.heap.size:=⟨Ο _,(θ.new _ _ _).drew⟩
def uT(a:El):BA:=bK a.Γ pU.data.toList
def oI(b:El):Option BA:=match b.Ξ with
 |[]=>N (D #[])
 |a::_=>if(uT b).toList.isEmpty&&decide (a.name=[115,104,111,119])&&nV ri ⟨a.Β.toArray⟩&&a.Γ.isEmpty&&a.Ξ.isEmpty then N (D a.Β.toArray) else A
noncomputable def eu(a:El):Option cp:=if decide (dU eF wX 0 [] a.Γ=N 0)&&a.Β.isEmpty&&decide (a.Ξ.length<=1) then(oI a).map λb=>⟨1,uT a,(D #[]),bK a.Γ pS.data.toList,bK a.Γ pT.data.toList,b,(D #[]),(D #[]),0,0,false,[]⟩ else A
def Ub(d:Z)(b:Option cp)(a:aI)(c:Z):Prop:=(match b with
 |some e=>a=ξ (σ #[aK e (V A 0 0),I E 0])
 |none=>a=ξ (σ #[aK z0 (V A 0 0),I E 3]))/\Y d c γ
theorem bX.zu(z:bX w j Q x i){k:Nat}(P:k<Q.Ξ.length):∃(a c d:Nat) (b:El) (g:Option Addr) (f:Nat) (n:Option Addr) (m:Nat),i=V (N (U a c A)) Q.Ξ.length d/\Q.Ξ.length<=d/\d<=Χ/\j a/\a<w.heap.size/\Q.Ξ[k]? =N b/\bX w j b (V g b.Γ.length f) (V n b.Ξ.length m)/\w.cell? ⟨a,c+k*4,A⟩=N (H (D b.name.toArray))/\w.cell? ⟨a,c+k*4+1,A⟩=N (V g b.Γ.length f)/\w.cell? ⟨a,c+k*4+2,A⟩=N (H (D b.Β.toArray))/\w.cell? ⟨a,c+k*4+3,A⟩=N (V n b.Ξ.length m):=by
 obtain⟨e,s,J,G⟩:=z.Ξ;have I:Q.Ξ.length=e.length:=by rw[s,List.length_map]
 have t:k<e.length:=by omega
 obtain⟨a,c,M,B,C,⟨d,E,O,F⟩,h⟩:=J.cell t;have l:=cT t;generalize e[k]=p at l;obtain⟨K,u,L,y⟩:=Ho e k p l;have o:=G p (ln l);obtain⟨⟨g,f,q⟩,n,m,r⟩:=o.form;rw[q] at u;rw[r] at y;rw[q,r] at o;refine⟨a,c,d,p.1,g,f,n,m,by rw[E,I],by omega,F,B,C,by rw[s,ml,l];rfl,o,h _ _ K,?_,?_,?_⟩
 .have:=h _ _ u;rwa [<-mW] at this
 .have:=h _ _ L;rwa [<-mW] at this
 have:=h _ _ y;rwa [<-mW] at this
theorem acB(e:bX w j Q x i)(d6:qA Q.Γ)(ec:fW Q)(d8:aT w):ν δ 157 #[bM Q x i] w (Ub w (eu Q)):=by
 obtain⟨⟨t,s,rfl⟩,p,o,rfl⟩:=e.form;have go:= @run_makeMap δ;have ek:Y w (((w.alloc (ζ #[H (D Q.name.toArray),V t Q.Γ.length s,H (D Q.Β.toArray),V p Q.Ξ.length o] 84)).alloc (ζ #[I E 0,H (D #[]),H (D #[]),H (D #[]),H (D #[]),H (D #[]),H (D #[]),H (D #[]),I Λ 0,I E 0,ι false,V A 0 0] 171)).alloc (ζ (mi.map H).toArray 9)) γ:=(((Y.refl w γ).alloc _).alloc _).alloc _;have d0:θ (((w.alloc (ζ #[H (D Q.name.toArray),V t Q.Γ.length s,H (D Q.Β.toArray),V p Q.Ξ.length o] 84)).alloc (ζ #[I E 0,H (D #[]),H (D #[]),H (D #[]),H (D #[]),H (D #[]),H (D #[]),H (D #[]),I Λ 0,I E 0,ι false,V A 0 0] 171)).alloc (ζ (mi.map H).toArray 9)) w.heap.size 84 #[H (D Q.name.toArray),V t Q.Γ.length s,H (D Q.Β.toArray),V p Q.Ξ.length o]:=((θ.new _ _ _).alloc _).alloc _;have d1:θ (((w.alloc (ζ #[H (D Q.name.toArray),V t Q.Γ.length s,H (D Q.Β.toArray),V p Q.Ξ.length o] 84)).alloc (ζ #[I E 0,H (D #[]),H (D #[]),H (D #[]),H (D #[]),H (D #[]),H (D #[]),H (D #[]),I Λ 0,I E 0,ι false,V A 0 0] 171)).alloc (ζ (mi.map H).toArray 9)) (w.heap.size+1) 171 #[I E 0,H (D #[]),H (D #[]),H (D #[]),H (D #[]),H (D #[]),H (D #[]),H (D #[]),I Λ 0,I E 0,ι false,V A 0 0]:=(θ.dA _ _ _ _).alloc _;have d2:θ (((w.alloc (ζ #[H (D Q.name.toArray),V t Q.Γ.length s,H (D Q.Β.toArray),V p Q.Ξ.length o] 84)).alloc (ζ #[I E 0,H (D #[]),H (D #[]),H (D #[]),H (D #[]),H (D #[]),H (D #[]),H (D #[]),I Λ 0,I E 0,ι false,V A 0 0] 171)).alloc (ζ (mi.map H).toArray 9)) (w.heap.size+1+1) 9 (mi.map H).toArray:=by have:=θ.new ((w.alloc (ζ #[H (D Q.name.toArray),V t Q.Γ.length s,H (D Q.Β.toArray),V p Q.Ξ.length o] 84)).alloc (ζ #[I E 0,H (D #[]),H (D #[]),H (D #[]),H (D #[]),H (D #[]),H (D #[]),H (D #[]),I Λ 0,I E 0,ι false,V A 0 0] 171)) 9 (mi.map H).toArray;simpa using this
 have TT:=K (I8 (zs:=mi) d2 (by simp));have cD:=K (Ig (w:=((w.alloc (ζ #[H (D Q.name.toArray),V t Q.Γ.length s,H (D Q.Β.toArray),V p Q.Ξ.length o] 84)).alloc (ζ #[I E 0,H (D #[]),H (D #[]),H (D #[]),H (D #[]),H (D #[]),H (D #[]),H (D #[]),I Λ 0,I E 0,ι false,V A 0 0] 171)).alloc (ζ (mi.map H).toArray 9)) (g:=w.heap.size+1+1) (c:=5) (zs:=mi));have bz:=K (Φ ek (Φ d0 d1));clear ek d0 d1 d2;simp only[mi,lm,nX,eI,eN,eP,Nat.reduceAdd] at cD bz TT;have cv:=K e;have dc:=K d6;have e3:=K d8;have HS:=K ec;simp only[bM] at*;clear e d6 d8 ec;go_enter func157,ntmps157;go_wp2_with fail;refine cD.out.mono ?_;rintro B ab ⟨y,rfl,cf,fr,fs,b4⟩;have dg:=K (bz.out.1.trans b4 Η);have c9:=K (Φ (b4.blk bz.out.2.1 id) (b4.blk bz.out.2.2 id));have t1:=abX (w:=ab) (q:=y) (g:=w.heap.size+1+1) (c:=5) (zs:=mi) cf (λft fi=>az b4 (TT.out ft fi) id) (by decide);have c2:=ack (e3.out.still dg.out);have es:=qJ.made ab (Y.refl ab γ);obtain⟨c4,cn,eo⟩:=es.ins t1 pU (by decide) (by decide);obtain⟨g8,co,eq⟩:=eo.ins c2 pS (by decide) (by decide);obtain⟨c5,eD,er⟩:=eq.ins c2 pT (by decide) (by decide);have dm:=K (show qJ ab c5 ab.heap.size wX 3 from er);simp only[pU,pS,pT] at cn co eD;clear cD TT bz cf fr fs b4 t1 c2 es eo eq er;have el:=dm.out.2.1;have cg:Y ab (c5.alloc (ζ #[ω A,ω (N ab.heap.size)] 237)) γ:=el.alloc _;have dk:=K (dg.out.trans cg Η);have cs:=K (Φ (cg.blk c9.out.1 id) (cg.blk c9.out.2 id));obtain⟨c6,c7,c8,cq⟩:=aj cs.out.1;have ct:=K (yT (o1:=A) (o2:=N ab.heap.size) (mu:=eF) (ma:=wX) (L0:=0) (cv.out.keeps dk.out λ_ _ e=>e) dc.out (TM.nil _) ((dm.out.tm (by decide)).keeps ((Y.refl c5 γ).alloc _)) (by decide) (λn _=>Hv n));simp only[bM] at ct;clear el cg;go_wp2_with fail;refine ct.out.mono ?_;rintro B ac ⟨rfl,ch⟩;clear c6 c7 c8 cq cn co eD;have X:=K (dk.out.trans ch Η);have g:=K (Φ (ch.blk cs.out.1 id) (ch.blk cs.out.2 id));clear ch ct;obtain⟨c6,c7,c8,cq⟩:=aj g.out.1;obtain⟨cU,hfb⟩:∃cU,cU=decide (dU eF wX 0 [] Q.Γ=N 0):=⟨_,rfl⟩;rw[<-hfb];have cu:=K hfb;clear hfb;have b8:η (∀nm n,Y ac n γ->ν δ 229 #[Μ #[H (D Q.name.toArray),V t Q.Γ.length s,H (D Q.Β.toArray),V p Q.Ξ.length o],H (D nm.toArray)] n λB ao=>B=ξ (H (bK Q.Γ nm))/\Y n ao γ/\η (Y ac ao γ)):=K λnm n b=>by have:=Ac (cv.out.keeps (X.out.trans b Η) λ_ _ e=>e) dc.out.1 nm;simp only[bM] at this;exact this.mono λB ao e=>⟨e.1,e.2,K (b.trans e.2 Η)⟩
 have dd:=K (show((D Q.Β.toArray):BA).toList.isEmpty=Q.Β.isEmpty from by rw[iy]);generalize((D Q.Β.toArray):BA)=cS at*;cases cU with
 |false=>have z:=K (show eu Q=A from by unfold eu;rw[<-cu.out];rfl);obtain⟨a5,a8,a9,ba,bb,bc,bd,be,bf,bi,a6,a7⟩:=aS g.out.2;obtain⟨y0,ad,au,av,aw,a0,a1,a2,a3,a4,ap,aq⟩:=dj g.out.2;obtain⟨q,r⟩:=kh g.out.2 X.out (.inr (cV _));go_wp2;obtain⟨C,F,L,M,O,P,R,S,T,W,G,J⟩:=q.out;refine Ω (v:=σ #[ez,I E 3]) (by simp[ez,ag,Ex,go_sem,C,F,L,M,O,P,R,S,T,W,G,J]) rfl ?_;exact⟨by rw[z.out];rfl,r.out⟩
 |true=>
  cases eg:cS.toList.isEmpty
  .have e1:=K (show Q.Β.isEmpty=false from by rw[<-dd.out];exact eg);have z:=K (show eu Q=A from by unfold eu;rw[<-cu.out,e1.out];rfl);obtain⟨a5,a8,a9,ba,bb,bc,bd,be,bf,bi,a6,a7⟩:=aS g.out.2;obtain⟨y0,ad,au,av,aw,a0,a1,a2,a3,a4,ap,aq⟩:=dj g.out.2;obtain⟨q,r⟩:=kh g.out.2 X.out (.inr (cV _));go_wp2;obtain⟨C,F,L,M,O,P,R,S,T,W,G,J⟩:=q.out;refine Ω (v:=σ #[ez,I E 3]) (by simp[ez,ag,Ex,go_sem,C,F,L,M,O,P,R,S,T,W,G,J]) rfl ?_;exact⟨by rw[z.out];rfl,r.out⟩
  by_cases gl:(1:Int)<Q.Ξ.length
  .have cW:¬Q.Ξ.length<=1:=by omega
   have z:=K (show eu Q=A from by unfold eu;simp[cW]);obtain⟨a5,a8,a9,ba,bb,bc,bd,be,bf,bi,a6,a7⟩:=aS g.out.2;obtain⟨y0,ad,au,av,aw,a0,a1,a2,a3,a4,ap,aq⟩:=dj g.out.2;obtain⟨q,r⟩:=kh g.out.2 X.out (.inr (cV _));go_wp2;obtain⟨C,F,L,M,O,P,R,S,T,W,G,J⟩:=q.out;refine Ω (v:=σ #[ez,I E 3]) (by simp[ez,ag,Ex,go_sem,C,F,L,M,O,P,R,S,T,W,G,J]) rfl ?_;exact⟨by rw[z.out];rfl,r.out⟩
  have cW:Q.Ξ.length<=1:=by omega
  have cI:=K (show eu Q=(oI Q).map λf1=>⟨1,uT Q,(D #[]),bK Q.Γ pS.data.toList,bK Q.Γ pT.data.toList,f1,(D #[]),(D #[]),0,0,false,[]⟩ from by
   have k:=cu.out;have u:Q.Β.isEmpty=true:=by rw[<-dd.out];exact eg
   unfold eu;rw[<-k,u];simp[cW])
  have bF:=K (b8.out pU.data.toList);have cJ:=K (b8.out pS.data.toList);have cR:=K (b8.out pT.data.toList);have eT:=K (show bK Q.Γ pU.data.toList=uT Q from rfl);rw[eT.out] at bF;obtain⟨l,hvt⟩:∃l,uT Q=l:=⟨_,rfl⟩;rw[hvt] at bF cI;have e4:=K hvt;clear hvt;generalize bK Q.Γ pS.data.toList=am at*;generalize bK Q.Γ pT.data.toList=an at*;simp only[pU,pS,pT] at bF cJ cR;have ds:η (∀c,Y ac c γ->c.cell? (U w.heap.size 0 A)=N (H (D Q.name.toArray))/\c.cell? (U w.heap.size 1 A)=N (V t Q.Γ.length s)/\c.cell? (U w.heap.size 2 A)=N (H cS)/\c.cell? (U w.heap.size 3 A)=N (V p Q.Ξ.length o)):=K λc b=>aj (b.blk g.out.1 id);go_upto_region 6 with fail
  go_cut [7] (λf3 c=>∃m:Nat,f3=π (N (U m 0 A))/\η (θ c m 171 #[I E 1,H l,H (D #[]),H am,H an,H (D #[]),H (D #[]),H (D #[]),I Λ 0,I E 0,ι false,V A 0 0]/\ac.heap.size<=m/\Y ac c γ))
  case first=>
   go_region_held3 (λc=>c.cell? (U w.heap.size 0 A)=N (H (D Q.name.toArray))/\c.cell? (U w.heap.size 1 A)=N (V t Q.Γ.length s)/\c.cell? (U w.heap.size 2 A)=N (H cS)/\c.cell? (U w.heap.size 3 A)=N (V p Q.Ξ.length o))
    (first|(refine ds.out _ ?_;(first|with_reducible exact(Y.refl _ _).drew|with_reducible exact((Y.refl _ _).alloc _).drew|with_reducible exact tJ (by assumption)|with_reducible exact Y.alloc (tJ (by assumption)) _|exact qa cc.out (.inr br.out.1))))
    (first|(have b5:=dv;clear b5;go_at_call 229;refine(cR.out _ (by with_reducible first|exact(Y.refl _ _).drew|exact((Y.refl _ _).alloc _).drew|exact tJ (by assumption)|exact Y.alloc (tJ (by assumption)) _)).mono ?_;rintro B ha ⟨rfl,c1,cc⟩;(first|((with_reducible have h:=((Ib.keeps fv).keeps em).keeps c1);have b3:=aS h.2;have b2:=dj h.2;obtain⟨a5,a8,a9,ba,bb,bc,bd,be,bf,bi,a6,a7⟩:=b3;obtain⟨y0,ad,au,av,aw,a0,a1,a2,a3,a4,ap,aq⟩:=b2;have br:=K h;clear h)|((with_reducible have h:=((C6 at_).keeps em).keeps c1);have b3:=aS h.2;have b2:=dj h.2;obtain⟨a5,a8,a9,ba,bb,bc,bd,be,bf,bi,a6,a7⟩:=b3;obtain⟨y0,ad,au,av,aw,a0,a1,a2,a3,a4,ap,aq⟩:=b2;have br:=K h;clear h)|((with_reducible have h:=(C6 dv).keeps c1);have b3:=aS h.2;have b2:=dj h.2;obtain⟨a5,a8,a9,ba,bb,bc,bd,be,bf,bi,a6,a7⟩:=b3;obtain⟨y0,ad,au,av,aw,a0,a1,a2,a3,a4,ap,aq⟩:=b2;have br:=K h;clear h)|skip))|(have b5:=at_;clear b5;go_at_call 229;with_reducible show ν δ 229 #[_,H (D #[102,114,111,109])] _ _;refine(cJ.out _ (by with_reducible first|exact(Y.refl _ _).drew|exact((Y.refl _ _).alloc _).drew|exact tJ (by assumption)|exact Y.alloc (tJ (by assumption)) _)).mono ?_;rintro B g9 ⟨rfl,em,dv⟩)|(go_at_call 229;with_reducible show ν δ 229 #[_,H (D #[116,121,112,101])] _ _;refine(bF.out _ (by with_reducible first|exact(Y.refl _ _).drew|exact((Y.refl _ _).alloc _).drew|exact tJ (by assumption)|exact Y.alloc (tJ (by assumption)) _)).mono ?_;rintro B f ⟨rfl,fv,at_⟩))
   all_goals
    go_wp2_with fail;go_meet;refine⟨_,rfl,K ⟨?_,?_,?_⟩⟩
    .first
      |with_reducible exact θ.new _ _ _
      |exact wZ br.out.2
    .first
      |exact br.out.1
      |exact cc.out.size
    .first
      |with_reducible exact Y.alloc cc.out _
      |exact qa cc.out (.inr br.out.1)
  case rest=>
  obtain⟨m,rfl,bn⟩:=hcut;generalize wc=eS at*;have f5:=K (X.out.trans bn.out.2.2 Η);have cq:eS.cell? (U w.heap.size 3 A)=N (V p Q.Ξ.length o):=(ds.out eS bn.out.2.2).2.2.2;have e2:η (w.heap.size+1<ac.heap.size):=K g.out.2.lt;clear bF cJ cR b8 c6 c7 c8;go_wp2_with fail;clear cq;go_loopg [45,9,10] Q.Ξ.length (λbt f2 g6 g5 wr=>∃b:Nat,bt+b=Q.Ξ.length/\f2=I E b/\η (Y ac wr γ/\∃d:BA,θ wr m 171 #[I E 1,H l,H (D #[]),H am,H an,H d,H (D #[]),H (D #[]),I Λ 0,I E 0,ι false,V A 0 0]/\(b=0->d=(D #[]))/\(b=1->oI Q=N d)))
  case atStart=>refine⟨0,by omega,rfl,K ⟨bn.out.2.2,_,bn.out.1,λ_=>rfl,λe=>ahN e (by decide)⟩⟩
  obtain⟨b,gg,rfl,b6⟩:=hrel;cases gk with
  |succ gk=>
   have fo:b<Q.Ξ.length:=by omega
   have fp:(b:Int)<Q.Ξ.length:=by omega
   obtain⟨f7,gs,f8,a,ce,cb,cm,ck,fk,ge,gf,gc,gd,bv,fg,ev,ew,c3,ex⟩:=cv.out.zu fo;injection fk with fm gn fn;subst fm fn;have bB:=X.out.trans b6.out.1 Η;have fJ:=az bB ev id;have f0:=az bB ew id;have cn:=az bB c3 id;have co:=az bB ex id
   have dp:η (oI Q=if l.toList.isEmpty&&decide (a.name=[115,104,111,119])&&nV ri ⟨a.Β.toArray⟩&&a.Γ.isEmpty&&a.Ξ.isEmpty then N (D a.Β.toArray) else A):=K (by
    have d9:b=0:=by omega
    subst d9;unfold oI;cases d7:Q.Ξ with
    |nil=>rw[d7] at bv;cases bv
    |cons hb gr=>rw[d7] at bv;simp only[List.getElem?_cons_zero,xZ] at bv;subst bv;rw[e4.out])
   have bE:=K (Φ (show(decide (a.name=[115,104,111,119]))=(((D a.name.toArray):BA).toList==[115,104,111,119]) from by rw[iy,Bool.eq_iff_iff];simp) (Φ (show a.Γ.isEmpty=decide (a.Γ.length=0) from by cases a.Γ<;>rfl) (show a.Ξ.isEmpty=decide (a.Ξ.length=0) from by cases a.Ξ<;>rfl)));clear fg bv ev ew c3 ex bB;generalize((D a.name.toArray):BA)=bw at*;generalize((D a.Β.toArray):BA)=f at*;go_upto_region 10 with fail
   clear fJ f0 cn co;have c0:Y wr (wr.alloc (ζ #[H bw,V ce a.Γ.length cb,H f,V cm a.Ξ.length ck] 84)) γ:=(Y.refl wr γ).alloc _;have dx:θ (wr.alloc (ζ #[H bw,V ce a.Γ.length cb,H f,V cm a.Ξ.length ck] 84)) wr.heap.size 84 #[H bw,V ce a.Γ.length cb,H f,V cm a.Ξ.length ck]:=θ.new _ _ _;have bx:=K (Φ (b6.out.1.trans c0 Η) (Φ dx (show ∃d:BA,θ _ m 171 #[I E 1,H l,H (D #[]),H am,H an,H d,H (D #[]),H (D #[]),I Λ 0,I E 0,ι false,V A 0 0] from(by obtain⟨d,y, -⟩:=b6.out.2;exact⟨d,c0.blk y id⟩))));clear c0 dx;generalize(wr.alloc (ζ #[H bw,V ce a.Γ.length cb,H f,V cm a.Ξ.length ck] 84))=bs at*;generalize wr.heap.size=dl at*;have e7:η (∀c,Y bs c γ->c.cell? (U dl 2 A)=N (H f)):=K λc fE=>(fE.blk bx.out.2.1 id).cell 2;have e6:η (∀n bt,ν δ 225 #[V (N (U bt 0 A)) 4 4] n λQ ao=>∃y,Q=ξ (af (.func 284) #[] #[π (N (U y 0 A))])/\ao.cell? (U y 0 A)=N (V (N (U bt 0 A)) 4 4)/\Y n ao γ):=K λn bt=>(Ig (w:=n) (g:=bt) (c:=4) (zs:=ri)).mono λQ ao ⟨y,k,u,_,_,d5⟩=>⟨y,k,u,d5⟩;have e8:η (∀b9,Y ((bs.alloc (ζ #[H (D #[97,119,97,121]),H (D #[99,104,97,116]),H (D #[100,110,100]),H (D #[120,97])] 9)).drew) b9 γ->yE b9 bs.heap.size ri/\η (Y bs b9 γ)):=K λb9 b=>by have e9:=θ.new bs 9 #[H (D #[97,119,97,121]),H (D #[99,104,97,116]),H (D #[100,110,100]),H (D #[120,97])];exact⟨I8 (zs:=ri) (b.blk e9.drew id) rfl,K ((((Y.refl bs γ).alloc _).drew).trans b Η)⟩
   go_region_held3 (λc=>c.cell? (U dl 2 A)=N (H f))
    (first|(refine e7.out _ ?_;(with_reducible first|exact(Y.refl _ _).drew|exact((Y.refl _ _).alloc _).drew|exact tJ (by assumption))))
    (first|(have b5:=bA;clear b5;go_at_call 284;refine(If (zs:=ri) eb dt (by decide) _).mono ?_;rintro B c4 ⟨rfl,rfl⟩)|(go_at_call 225;refine(e6.out _ _).mono ?_;rintro B ad ⟨c3,rfl,eb,en⟩;have cf:=e8.out _ en;obtain⟨dt,bA⟩:=cf))
   have ea:c4.cell? (U m 1 A)=N (H l):=by obtain⟨d,y⟩:=bx.out.2.2;exact(bA.out.blk y id).cell 1
   obtain⟨e0,fb,fd,fe⟩:=aj (bA.out.blk bx.out.2.1 id);clear eb en dt;generalize a.Γ.length=cl at*;generalize a.Ξ.length=kk at*;obtain⟨bN,hgd⟩:∃bN,bN=(l.toList.isEmpty&&(bw.toList==[115,104,111,119])&&nV ri f&&decide (cl=0)&&decide (kk=0)):=⟨_,rfl⟩;have dn:=K (show oI Q=if bN then N f else A from by rw[dp.out,bE.out.1,bE.out.2.1,bE.out.2.2,hgd]);have bq:=K hgd;clear hgd dp bE;generalize nV ri f=fa at*;go_upto_region 11 with fail
   go_cut [77] (λf4 c=>f4=ι (!bN)/\c=c4)
   case first=>
    cases k:l.toList.isEmpty with
    |false=>go_wp2_with fail;go_meet;exact⟨by rw[bq.out,k];rfl,rfl⟩
    |true=>
     cases u:(bw.toList==[115,104,111,119]) with
     |false=>go_wp2_with fail;go_meet;exact⟨by rw[bq.out,k,u];rfl,rfl⟩
     |true=>
      cases fa with
      |false=>go_wp2_with fail;go_meet;exact⟨by rw[bq.out,k,u];rfl,rfl⟩
      |true=>
       by_cases d5:(0:Int)<cl
       .have b0:¬cl=0:=by omega
        have b7:=K b0;clear b0;go_wp2_with fail;go_meet;exact⟨by rw[bq.out,k,u];simp[b7.out],rfl⟩
       have b0:cl=0:=by omega
       have b7:=K b0;clear b0;by_cases gb:(0:Int)<kk
       .have b1:¬kk=0:=by omega
        have cx:=K b1;clear b1;go_wp2_with fail;go_meet;exact⟨by rw[bq.out,k,u];simp[b7.out,cx.out]<;>omega,rfl⟩
       have b1:kk=0:=by omega
       have cx:=K b1;clear b1;go_wp2_with fail;go_meet;exact⟨by rw[bq.out,k,u];simp[b7.out,cx.out]<;>omega,rfl⟩
   case rest=>
   obtain⟨rfl,rfl⟩:=hcut;have cy:=K (bx.out.1.trans bA.out Η);cases bN with
   |false=>have z:=K (show eu Q=A from by rw[cI.out,dn.out];rfl);have al:=K (cy.out.blk g.out.2 id);have cA:=K (X.out.trans cy.out Η);obtain⟨a5,a8,a9,ba,bb,bc,bd,be,bf,bi,a6,a7⟩:=aS al.out;obtain⟨y0,ad,au,av,aw,a0,a1,a2,a3,a4,ap,aq⟩:=dj al.out;obtain⟨q,r⟩:=kh al.out cA.out (.inr (cV _));clear e0 fb fd fe ea;go_wp2;obtain⟨C,F,L,M,O,P,R,S,T,W,G,J⟩:=q.out;refine Ω (v:=σ #[ez,I E 3]) (by simp[ez,ag,Ex,go_sem,C,F,L,M,O,P,R,S,T,W,G,J]) rfl ?_;exact⟨by rw[z.out];rfl,r.out⟩
   |true=>
    obtain⟨g7,ef⟩:=bx.out.2.2;have bk:=bA.out.blk ef id;have f9:=bk.cell 5;have ga:=bk.frozen 5
    have e5:η (Y ac (wc.setCell (U m 5 A) (H f)) γ/\∃d:BA,θ (wc.setCell (U m 5 A) (H f)) m 171 #[I E 1,H l,H (D #[]),H am,H an,H d,H (D #[]),H (D #[]),I Λ 0,I E 0,ι false,V A 0 0]/\(b+1=0->d=(D #[]))/\(b+1=1->oI Q=N d)):=K
     ⟨cy.out.χ (p:=(U m 5 A)) (.inr bn.out.2.1) (H f),f,(bk.χ 5 (H f)).to (by simp),λe=>ahN e (Nat.succ_ne_zero _),λ_=>by rw[dn.out];rfl⟩
    clear bk ef ea;go_wp2_with fail;go_roundg gk
    case rel=>exact⟨b+1,by omega,by go_num,e5⟩
    case measure=>omega
  |zero=>
   have d9:b=Q.Ξ.length:=by omega
   have fp:¬(b:Int)<Q.Ξ.length:=by omega
   obtain⟨cB,d,da,d3,d4⟩:=b6.out
   have z:=K (show eu Q=N ⟨1,l,(D #[]),am,an,d,(D #[]),(D #[]),0,0,false,[]⟩ from by
    rw[cI.out]
    have:oI Q=N d:=by
     by_cases k:b=1
     .exact d4 k
     have ff:b=0:=by omega
     have:Q.Ξ=[]:=kG.1 (by omega);unfold oI;rw[this,d3 ff]
    rw[this];rfl)
   clear d3 d4;have al:=K (cB.blk g.out.2 id);have cA:=K (X.out.trans cB Η);have bk:=K da;clear cB da;have et:m≠w.heap.size+1:=by have k:=bn.out.2.1;have u:=e2.out;omega
   have bE:=K et;clear et;obtain⟨a5,a8,a9,ba,bb,bc,bd,be,bf,bi,a6,a7⟩:=aS al.out;obtain⟨gt,gB,gF,gR,gW,g0,g1,g2,g3,g4,gw,gz⟩:=aS bk.out;obtain⟨y0,ad,au,av,aw,a0,a1,a2,a3,a4,ap,aq⟩:=dj al.out;obtain⟨q,r,f6⟩:=mS ⟨1,l,(D #[]),am,an,d,(D #[]),(D #[]),0,0,false,[]⟩ 0 false (V A 0 0) al.out cA.out (.inr (cV _));simp only[kZ,iJ] at q r;go_wp2;obtain⟨C,F,L,M,O,P,R,S,T,W,G,J⟩:=q.out;refine Ω (v:=σ #[Μ #[I E 1,H l,H (D #[]),H am,H an,H d,H (D #[]),H (D #[]),I Λ 0,I E 0,ι false,V A 0 0],I E 0]) (by simp[ag,Ex,go_sem,C,F,L,M,O,P,R,S,T,W,G,J]) rfl ?_;exact⟨by rw[z.out];rfl,r.out⟩
theorem Yr{i:BA->Option cO}:∀ {d:At} {f:Int} {seen:List BA} {j:Int},dU P i f seen d=N j->∀c∈d,∃g e,jC P i ⟨c.1.toArray⟩=N (g,e)/\e ⟨c.2.toArray⟩=true:=by
 intro d;induction d with
 |nil=>intro f seen j _ c b;cases b
 |cons n o l=>
  intro f seen j a c b;obtain⟨m,v⟩:=n;simp only[dU] at a;cases h:jC P i ⟨m.toArray⟩ with
  |none=>rw[h] at a;cases a
  |some k=>
   obtain⟨g,e⟩:=k;rw[h] at a;simp only at a;split at a
   .next hc=>
    simp only[i6] at hc;obtain rfl|b:=List.mem_cons.1 b
    .exact⟨g,e,h,hc.1⟩
    exact l a c b
   cases a
theorem yU{c:BA->Option cO}{seen:List BA}(d:dU P c m seen W=N C)(nm:Bt):bK W nm=(D #[])\/∃b a,jC P c ⟨nm.toArray⟩=N (b,a)/\a (bK W nm)=true:=by
 unfold bK;cases hv:gi W nm with
 |none=>exact .inl rfl
 |some v=>obtain⟨b,a,e,f⟩:=Yr d _ (LC hv);exact .inr ⟨b,a,e,f⟩
theorem xH(a:nU p=true):p.size<=40:=by unfold nU at a;simp only[i6,decide_eq_true_eq] at a;exact a.1.2
theorem PG{zs:List BA}{n:Nat}(b:∀c∈zs,c.size<=n)(a:nV zs p=true):p.size<=n:=by exact b p ((Lib.containsS_iff zs p).1 a)
theorem Hk(a:aN p=true):p.size<=16:=by unfold aN at a;simp only[i6,decide_eq_true_eq] at a;exact a.1.2
theorem De(d:pZ p=true):p.size<=40:=by
 unfold pZ um at d;simp only[i6,Eg,Ei] at d;obtain⟨f,c⟩:=d;rw[f] at c;simp only[Bool.false_eq_true,false_or] at c;unfold iF at c;simp only[i6,Eg,Ei] at c;obtain⟨a,b⟩:=c;have a:=Hk a;have e:p.size=p.data.toList.length:=by rw[Array.length_toList];rfl
 unfold fZ at a;rw[iV] at a;unfold gy at b;unfold Lib.cut at a b;split at a
 .rw[ahM (by assumption)] at b;simp only[Bool.true_eq_false,false_or] at b;have b:=Hk b;rw[iV] at b;rw[List.length_take] at a;rw[List.length_drop] at b;simp only[eI,eN] at b;rw[e];clear e;generalize p.data.toList.length=h at*;generalize(Lib.index p.data.toList [47]).toNat=g at*;rw[Nat.min_def] at a;split at a<;>omega
 simp only at a;omega
theorem PY(nm:Bt):jC eF wX ⟨nm.toArray⟩=if((D nm.toArray):BA)=pT then N (0,pZ) else if((D nm.toArray):BA)=pS then N (0,pZ) else if((D nm.toArray):BA)=pU then N (0,λa=>nV mi a) else A:=by
 unfold jC wX ed eF;simp only
 repeat' split
 all_goals simp_all
theorem acx{c:cp}(e:eu Q=N c):fh c/\c.Θ=1/\c.cE.size<=40/\c.aM=[]:=by
 unfold eu at e;split at e
 .next hc=>
  simp only[i6,decide_eq_true_eq] at hc;obtain⟨h,b,rfl⟩:=Option.map_eq_some_iff.1 e
  have k:h.size<=10:=by
   unfold oI at b;split at b
   .injection b with b;subst b;decide
   split at b
   .next hq=>
    simp only[i6,decide_eq_true_eq] at hq;injection b with b;subst b;exact PG (n:=10) (zs:=ri) (by decide) hq.1.1.2
   cases b
  have f:∀nm:Bt,((D nm.toArray):BA)≠pU->(bK Q.Γ nm).size<=40:=λnm g=>by
   obtain a|⟨d,t,a,h2⟩:=yU hc.1.1 nm
   .rw[a];decide
   rw[PY] at a;split at a
   .injection a with a;injection a with _ a;subst a;exact De h2
   split at a
   .injection a with a;injection a with _ a;subst a;exact De h2
   first
    |cases a
    |(
     split at a
     .next hq=>exact ahN hq g
     .cases a)
  have l:(uT Q).size<=40:=by
   unfold uT;obtain a|⟨d,t,a,h2⟩:=yU hc.1.1 pU.data.toList
   .rw[a];decide
   rw[PY] at a;split at a
   .injection a with a;injection a with _ a;subst a;exact De h2
   split at a
   .injection a with a;injection a with _ a;subst a;exact De h2
   split at a
   .injection a with a;injection a with _ a;subst a;exact PG (n:=40) (zs:=mi) (by decide) h2
   cases a
  have j:=f pS.data.toList (by decide);have m:=f pT.data.toList (by decide);have i:eB 0:=by unfold eB;omega
  exact⟨⟨by simp only;omega,ai _,by simp only;omega,by simp only;omega,by simp only;omega,ai _,ai _,i,ai _,nofun⟩,rfl,by simp only;omega,rfl⟩
 cases e
theorem zW:prog.underlying 96=N (.map 9 3):=by kernel_rfl
def ni(f e:Z)(c:Nat):Prop:=f.heap.size<=c/\∃b,aC bR e c b 10/\∀d,b d=A\/∃a:Int,b d=N (I E a)/\0<=a/\a<10
theorem ni.keeps{a w:Z}(b:ni a w y)(f:Y w n γ):ni a n y:=by obtain⟨c,g,d,e⟩:=b;exact⟨c,g,d.keeps f id,e⟩
theorem ni.drew(a:ni w n y):ni w n.drew y:=by obtain⟨b,e,c,d⟩:=a;exact⟨b,e,c.drew,d⟩
theorem ni.look(a:ni w n y){x:BA}(g:x.size<=1000000):∃b:Int,(cw 96 (ω (N y)) (H x) false).run δ n= .ok (I E b) n/\0<=b/\b<10:=by
 obtain⟨f,h,d,e⟩:=a;have c:=d.look dG (t:=96) (e:=3) zW (z:=I E 0) (by kernel_rfl) (x:=x) (by show x.size<=Χ;unfold Χ;omega);obtain a|⟨b,a,hi⟩:=e x
 .rw[a] at c;exact⟨0,c,by decide⟩
 rw[a] at c;exact⟨b,c,hi⟩
theorem Is{c:BA->Option ε}(g:aC bR w y c k)(n:k<=100){x:BA}(o:x.size<=1000000)(a:Int)(j:∀x,c x=A\/∃a:Int,c x=N (I E a)/\0<=a/\a<10)(i:0<=a/\a<10):∃b d,(fB 96 (ω (N y)) (H x) (I E a)).run δ w= .ok () b/\aC bR b y d (k+1)/\Y w b (·=y)/\∀x,d x=A\/∃a:Int,d x=N (I E a)/\0<=a/\a<10:=by
 obtain⟨b,m,h,l⟩:=g.store dG (t:=96) (e:=3) zW (by unfold Χ;omega) (x:=x) (by show x.size<=Χ;unfold Χ;omega) (I E a);refine⟨b,_,m,h,l,λf=> ?_⟩;by_cases e:f=x
 .subst e;rw[dJ];exact .inr ⟨a,rfl,i⟩
 rw[dI _ _ _ _ e];exact j f
theorem aeh  :ν δ 337 #[] w λr n=>∃c,r=ξ (ω (N c))/\η (ni w n c/\Y w n γ):=by have s:= @run_makeMap δ;have m:=aC.made bR w;obtain⟨A,t,x,g,j,d⟩:=Is m (by decide) (x:=(D #[116,111])) (by decide) 1 (λb=> .inl rfl) (by decide);obtain⟨B,u,y,h,k,e⟩:=Is g (by decide) (x:=(D #[102,114,111,109])) (by decide) 2 d (by decide);obtain⟨o,q,z,i,l,f⟩:=Is h (by decide) (x:=(D #[98,111,116,104])) (by decide) 3 e (by decide);have p:η (ni w o w.heap.size/\Y w o γ):=K ⟨⟨Ο _,q,i.mono (by decide),f⟩,((((Y.refl w γ).alloc _).trans j λb a=> .inr (by have a:b=_:=a;omega)).trans k λb a=> .inr (by have a:b=_:=a;omega)).trans l λb a=> .inr (by have a:b=_:=a;omega)⟩;clear m g h i j k l d e f;go_enter func337,ntmps337;go_wp2;go_ret;exact⟨_,rfl,p⟩
theorem aC.OH{i:Type}{b:lU i}{r:i->Option ε}(m:aC b w y r k){t e:aQ}(q:prog.underlying t=N (.map b.t e))(h:aQ):∃g:Nat,g<=k/\∀a,a.heap[y]? =w.heap[y]?->(tC #[t] h #[ω (N y)]).run δ a= .ok (I E g) a:=by
 obtain⟨s,d,u,x⟩:=m;obtain⟨c,clock,n,j,f,rfl⟩:=d;have l:xL (DataW.map ((c.toList.map (WideElems.rg δ b.t hv)).foldr DataW.insert []))=c.size:=by simp[xL,length_sorted]
 refine⟨c.size,f,λa o=> ?_⟩;have d:a.ownsMap δ b.t hv y k _:=⟨c,clock,o.trans n,j,f,rfl⟩;have p:=d.len q h;rw[<-l];exact p
def lY(k:Z)(f:Bs)(c:Z)(i:ε)(h:cO):Prop:=∃(b:Nat) (e:Array ε),i=af (.func b) #[] e/\(∀args c,(callFunc b args).run δ c= .ok (.enter b args) c)/\∀a,Y k a γ->Y c a f->∀d:BA,d.size<=10000->ν δ b (#[H d]++e) a λg j=>g=ξ (ι (h d))/\Y a j γ
theorem lY.of{p:cO}(d:gZ w x p)(a:Bs)(j:Z):lY w a j x p:=by obtain⟨c,i,e,f,g⟩:=d;exact⟨c,i,e,f,λb h _=>g b h⟩
theorem lY.step{b:cO}(a:lY w j n x b)(h:Y n G j):lY w j G x b:=by obtain⟨d,l,e,f,g⟩:=a;exact⟨d,l,e,f,λc i k=>g c i (h.trans k λ_ a=> .inl a)⟩
theorem lY.QF{b:cO}(e:lY w j n x b)(i:Y w n γ):gZ n x b:=by obtain⟨d,k,f,g,h⟩:=e;exact⟨d,k,f,g,λc a=>h c (i.trans a Η) (a.mono Η)⟩
def jb(e:Z)(f:Bs)(d:Z)(b:Nat)(g:BA->Option cO)(j:Nat):Prop:=e.heap.size<=b/\f b/\Y e d γ/\∃c,aC bR d b c j/\∀a,(c a=A/\g a=A)\/∃i h,c a=N i/\g a=N h/\lY e f d i h
theorem jb.made(a:Bs)(b:Y w n γ)(c:a n.heap.size):jb w a (n.alloc (.map #[] 0)) n.heap.size eF 0:=⟨b.size,c,b.alloc _,_,aC.made bR n,λ_=> .inl ⟨rfl,rfl⟩⟩
theorem jb.stay{w':Z}{G:Bs}(b:jb w j n y P k)(d:Y n w' G)(m:¬G y)(e:∀a,G a->j a/\w.heap.size<=a):jb w j w' y P k:=by
 obtain⟨f,g,h,o,i,l⟩:=b;refine⟨f,g,h.trans d λa c=> .inr (e a c).2,o,i.keeps d m,λa=> ?_⟩;obtain b|⟨tv,p,q1,q2,q3⟩:=l a
 .exact .inl b
 exact .inr ⟨tv,p,q1,q2,q3.step (d.mono λa c=> .inl (e a c).1)⟩
theorem jb.ins(g:jb w j n y P k){e:cO}(u:lY w j n x e)(c:BA)(A:c.size<=1000)(z:k<=1000):∃a,(fB 235 (ω (N y)) (H c) x).run δ n= .ok () a/\jb w j a y (ed P c e) (k+1)/\Y n a (·=y)/\Y w a γ:=by
 obtain⟨o,i,p,B,q,r⟩:=g;obtain⟨a,t,s,h⟩:=q.store dG (t:=235) (e:=92) tg (by unfold Χ;omega) (x:=c) (by show c.size<=Χ;unfold Χ;omega) x;have m:Y n a j:=h.mono λb d=> .inl (by have d:b=y:=d;rw[d];exact i);have l:Y w a γ:=p.trans h λb d=> .inr (by have d:b=y:=d;omega);refine⟨a,t,⟨o,i,l,_,s,λb=> ?_⟩,h,l⟩;by_cases f:b=c
 .subst f;exact .inr ⟨x,e,dJ _ _ _,by simp[ed],u.step m⟩
 rw[dI _ _ _ _ f];have:ed P c e b=P b:=by simp[ed,f]
 rw[this];obtain g|⟨x,e,q1,q2,q3⟩:=r b
 .exact .inl g
 exact .inr ⟨x,e,q1,q2,q3.step m⟩
theorem jb.tm(a:jb w j n y P k)(e:k<=1000):TM n (ω (N y)) P:=by
 obtain⟨h,i,b,f,c,d⟩:=a;refine .inr ⟨y,k,f,rfl,c,e,λg=> ?_⟩;obtain a|⟨tv,p,q1,q2,q3⟩:=d g
 .exact .inl a
 exact .inr ⟨tv,p,q1,q2,q3.QF b⟩
theorem jb.len(d:jb w j n y P k)(p:k<=1000):∃b:Int,(0<=b/\b<=1000)/\∀a,Y n a γ->(tC #[235] 3 #[ω (N y)]).run δ a= .ok (I E b) a:=by obtain⟨h,i,l,q,c,m⟩:=d;obtain⟨f,o,e⟩:=c.OH (t:=235) (e:=92) tg 3;exact⟨f,by omega,λa g=>e a (g.block y c.lt id)⟩
theorem PE{w0 W:Z}(h:Bs)(hF:∀m,h m->m<W.heap.size)(a:List BA)(q:a.length<=1000):ν δ 225 #[V (N (U W.heap.size 0 A)) a.length a.length] (W.alloc (ζ (a.map H).toArray 9)) λl c=>∃b,l=ξ (af (.func 284) #[] #[π (N (U b 0 A))])/\η (lY w0 h c (af (.func 284) #[] #[π (N (U b 0 A))]) (λg=>nV a g)/\Y W c γ):=by
 refine(Ig (w:=W.alloc (ζ (a.map H).toArray 9)) (g:=W.heap.size) (c:=a.length) (zs:=a)).mono ?_;rintro l c ⟨b,e,f,u,w,i⟩;have j:=θ.new W 9 (a.map H).toArray;have p:yE c W.heap.size a:=I8 (i.blk j id) (by simp);have x:W.heap.size<b:=by have:=j.lt;omega
 refine⟨b,e,K ⟨⟨284,_,rfl,Na,λs _ k g _=>(If (az k f λd=> ?_) (λr o=>az k (p r o) λd=> ?_) q g).mono λt y ⟨e,f⟩=>⟨e,by rw[f];exact Y.refl _ _⟩⟩,((Y.refl W γ).alloc _).trans i Η⟩⟩
 .have n:=hF _ d;omega
 have n:=hF _ d;omega
theorem XM:∀args a,(callFunc 54 args).run δ a= .ok (.enter 54 args) a:=enters_of func54 (by kernel_rfl) rfl
theorem XI:∀args a,(callFunc 230 args).run δ a= .ok (.enter 230 args) a:=enters_of func230 (by kernel_rfl) rfl
theorem XJ:∀args a,(callFunc 232 args).run δ a= .ok (.enter 232 args) a:=enters_of func232 (by kernel_rfl) rfl
theorem XK:∀args a,(callFunc 285 args).run δ a= .ok (.enter 285 args) a:=enters_of func285 (by kernel_rfl) rfl
theorem ahd(c:Z):gZ c (af (.func 54) #[] #[]) aN:=
 ⟨54,#[],rfl,XM,λa e b d=>nT a b (by omega)⟩
theorem D8(a:aT w):gZ w (af (.func 230) #[] #[]) nU:=
 ⟨230,#[],rfl,XI,λd b c e=>RQ (a.still b) c (by omega)⟩
theorem Wp(b:aT w):gZ w (af (.func 232) #[] #[]) (λa=>(fQ a).isSome):=
 ⟨232,#[],rfl,XJ,λd c a e=>WH (b.still c) a (by omega)⟩
theorem abF(a:aT w):gZ w (af (.func 285) #[] #[]) zE:=
 ⟨285,#[],rfl,XK,λd b c e=>abG (a.still b) c (by omega)⟩
def Tx(h:Z)(e:aI)(g:Z):Prop:=∃(b a:BA) (sub:Int) (c f d:Bool),e=ξ (σ #[Μ #[H b,H a,I E sub,ι c],ι f,ι d])/\b.size<=40/\a.size<=40/\(0<=sub/\sub<10)/\Y h g γ
structure Ts (w W:Z) (t1:aQ) (c1:Array ε) (t2:aQ) (c2:Array ε):Prop where
 keeps:Y w W γ
 b1:θ W w.heap.size t1 c1
 b2:θ W (w.heap.size+1) t2 c2
 size:W.heap.size=w.heap.size+1+1
theorem kk(a:Y w n γ)(b:Y n G γ):Y w G γ:=a.trans b Η
theorem za{t2:aQ}{a:Array ε}(b:(w.alloc (ζ q u)).alloc (ζ a t2)=n):Ts w n u q t2 a:=by subst b;exact⟨((Y.refl w γ).alloc _).alloc _,(θ.new _ _ _).alloc _,θ.dA _ _ _ _,by simp⟩
theorem PF{W:Z}(a:List BA)(g:a.length<=1000):ν δ 225 #[V (N (U W.heap.size 0 A)) a.length a.length] (W.alloc (ζ (a.map H).toArray 9)) λe d=>∃b,e=ξ (af (.func 284) #[] #[π (N (U b 0 A))])/\η (gZ d (af (.func 284) #[] #[π (N (U b 0 A))]) (λh=>nV a h)/\Y W d γ):=by refine(PE (w0:=W) γ Η a g).mono ?_;rintro e d ⟨b,f,c⟩;exact⟨b,f,K ⟨c.out.1.QF c.out.2,c.out.2⟩⟩
theorem jb.first{e:cO}(m:gZ w x e)(b:BA)(n:b.size<=1000):∃a,(fB 235 (ω (N w.heap.size)) (H b) x).run δ (w.alloc (.map #[] 0))= .ok () a/\w.heap.size<a.heap.size/\Y w a γ/\∀c:Bs,c w.heap.size->jb w c a w.heap.size (ed eF b e) 1:=by
 obtain⟨a,l,k,h⟩:=(aC.made bR w).store dG (t:=235) (e:=92) tg (by unfold Χ;omega) (x:=b) (by show b.size<=Χ;unfold Χ;omega) x;have i:Y w a γ:=((Y.refl w γ).alloc _).trans h λf g=> .inr (by have g:f=_:=g;omega);have j:w.heap.size<a.heap.size:=by have:=h.size;simp at this;omega
 refine⟨a,l,j,i,λc hF=>⟨Ο _,hF,i,_,k,λf=> ?_⟩⟩;by_cases d:f=b
 .subst d;exact .inr ⟨x,e,dJ _ _ _,by simp[ed],lY.of m c a⟩
 rw[dI _ _ _ _ d];exact .inl ⟨rfl,by simp[ed,d,eF]⟩
def Qv:List BA:=[(D #[116,111]),(D #[102,114,111,109]),(D #[98,111,116,104])]
def Qw:List BA:=[(D #[116,111]),(D #[102,114,111,109]),(D #[98,111,116,104]),(D #[114,101,109,111,118,101])]
def Hl:List BA:=[(D #[115,117,98,115,99,114,105,98,101])]
def mG:BA:=(D #[106,105,100])
def pW:BA:=(D #[110,97,109,101])
def Ia:BA:=(D #[115,117,98,115,99,114,105,112,116,105,111,110])
def HJ:BA:=(D #[97,115,107])
noncomputable def uI(a:cO):BA->Option cO:=ed (ed (ed eF pW nU) Ia a) HJ (λb=>nV Hl b)
theorem aad{c:cO}(e:dU (ed eF mG aN) (uI c) m [] W=N C):(bK W mG.data.toList).size<=40/\(bK W pW.data.toList).size<=40:=by
 constructor
 .obtain a|⟨d,t,a,b⟩:=yU e mG.data.toList
  .rw[a];decide
  have:jC (ed eF mG aN) (uI c) mG=N (1,aN):=by unfold jC ed;simp
  rw[show((D mG.data.toList.toArray):BA)=mG from rfl,this] at a;injection a with a;injection a with _ a;subst a;have:=Hk b;omega
 obtain a|⟨d,t,a,b⟩:=yU e pW.data.toList
 .rw[a];decide
 have:jC (ed eF mG aN) (uI c) pW=N (0,nU):=by
  have f:pW≠mG:=by decide
  have b:pW≠Ia:=by decide
  have g:pW≠HJ:=by decide
  unfold jC uI ed eF;simp[f,b,g]
 rw[show((D pW.data.toList.toArray):BA)=pW from rfl,this] at a;injection a with a;injection a with _ a;subst a;have:=xH b;omega
theorem aaa(t:aT w){o:cO}(X:gZ w x o):∃a g d,(fB 235 (ω (N w.heap.size)) (H (D #[106,105,100])) (af (.func 54) #[] #[])).run δ (w.alloc (.map #[] 0))= .ok () a/\(fB 235 (ω (N a.heap.size)) (H (D #[110,97,109,101])) (af (.func 230) #[] #[])).run δ (a.alloc (.map #[] 0))= .ok () g/\(fB 235 (ω (N a.heap.size)) (H (D #[115,117,98,115,99,114,105,112,116,105,111,110])) x).run δ g= .ok () d/\ν δ 225 #[V (N (U d.heap.size 0 A)) 1 1] (d.alloc (ζ #[H (D #[115,117,98,115,99,114,105,98,101])] 9)) (λp q=>∃f,p=ξ (af (.func 284) #[] #[π (N (U f 0 A))])/\∃e,(fB 235 (ω (N a.heap.size)) (H (D #[97,115,107])) (af (.func 284) #[] #[π (N (U f 0 A))])).run δ q= .ok () e/\η (Y w e γ/\TM e (ω (N w.heap.size)) (ed eF mG aN)/\TM e (ω (N a.heap.size)) (uI o)/\∃h:Int,(0<=h/\h<=1000)/\∀i,Y e i γ->(tC #[235] 3 #[ω (N w.heap.size)]).run δ i= .ok (I E h) i)):=by
 obtain⟨a,R,ad,y,r⟩:=jb.first (ahd w) mG (by decide);let c:Bs:=λb=>b=w.heap.size\/b=a.heap.size;have B:=r c (.inl rfl);have C:jb w c (a.alloc (.map #[] 0)) w.heap.size _ 1:=B.stay (G:=γ) ((Y.refl a γ).alloc _) id Η;have L:=jb.made c y (.inr rfl);obtain⟨g,S,M,j6,ab⟩:=L.ins (lY.of (D8 t) c _) pW (by decide) (by decide);have l:¬(w.heap.size=a.heap.size):=by omega
 have hF:∀b,b=a.heap.size->c b/\w.heap.size<=b:=λb j=>⟨.inr j,by omega⟩;have F:=C.stay j6 l hF;obtain⟨d,T,O,j7,ac⟩:=M.ins (lY.of X c _) Ia (by decide) (by decide);have G:=F.stay j7 l hF;have ae:a.heap.size<d.heap.size:=by have s:=j6.size;have aa:=j7.size;simp at s;omega
 refine⟨a,g,d,R,S,T,?_⟩;have m:=PE (w0:=w) (W:=d) c (λb j=>by rcases j with rfl|rfl<;>omega) Hl (by decide);simp only[Hl,lm,nX,eI,eN,eP] at m;refine m.mono ?_;rintro p q ⟨f,u,k⟩;have J:=G.stay (G:=γ) k.out.2 id Η;have P:=O.stay (G:=γ) k.out.2 id Η;obtain⟨e,W,Q,j9,z⟩:=P.ins k.out.1 HJ (by decide) (by decide);have n:=J.stay j9 l hF;exact⟨f,u,e,W,K ⟨z,n.tm (by decide),Q.tm (by decide),n.len (by decide)⟩⟩
theorem ni.aaJ(b:ni w n y)(e:BA)(j:e.size<=1000000):∃c:Int,(0<=c/\c<10)/\∀a,Y n a γ->(cw 96 (ω (N y)) (H e) false).run δ a= .ok (I E c) a:=by
 obtain⟨i,k,g,h⟩:=b;have f:=λa (d:Y n a γ)=>(g.keeps d id).look dG (t:=96) (e:=3) zW (z:=I E 0) (by kernel_rfl) (x:=e) (by show e.size<=Χ;unfold Χ;omega);obtain b|⟨c,b,hi⟩:=h e
 .exact⟨0,by decide,λa d=>by have:=f a d;rw[b] at this;exact this⟩
 exact⟨c,hi,λa d=>by have:=f a d;rw[b] at this;exact this⟩
theorem Z9(b:bX w j Q x i)(aX:qA Q.Γ)(a0:aT w)(d:Int):ν δ 286 #[bM Q x i,I E d] w (Tx w):=by
 obtain⟨⟨P,O,rfl⟩,T,S,rfl⟩:=b.form;have bu:= @run_makeMap δ;have aO:=K b;have ap:=K aX;have ba:=K a0;simp only[bM] at*;clear b aX a0;go_enter func286,ntmps286;go_upto_region 1 with fail
 generalize n:bm (bm w _) _=k at*;have f:=K (za n);clear n;have aw:=K (PF (W:=k) Qv (by decide));have ax:=K (λh=>PF (W:=h) Qw (by decide));simp only[Qv,Qw,lm,nX,eI,eN,eP,Nat.reduceAdd] at aw ax;go_wp2_with fail;refine aw.out.mono ?_;rintro e bB ⟨X,rfl,m⟩;clear aw;go_upto_if 13 with fail
 go_cut [7] (λbn a=>∃X W,bn=af (.func 284) #[] #[π (N (U X 0 A))]/\η (gZ a (af (.func 284) #[] #[π (N (U X 0 A))]) W/\Y k a γ))
 case first=>
  by_cases be:d=3
  .subst be;go_wp2_with fail;refine(ax.out _).mono ?_;rintro e aI ⟨a3,rfl,aU⟩;go_wp2_with fail;go_meet;exact⟨a3,_,rfl,K ⟨aU.out.1,m.out.2.trans aU.out.2 Η⟩⟩
  go_wp2_with fail;go_meet;exact⟨X,_,rfl,K ⟨m.out.1,m.out.2⟩⟩
 case rest=>
 obtain⟨bv,W,rfl,ao⟩:=hcut;generalize wc=aI at*;clear m ax;obtain⟨a7,bC,bD,bi,bj,bk,al⟩:=aaa (ba.out.still (f.out.keeps.trans ao.out.2 Η)) ao.out.1;replace al:=K al;go_wp2_with fail;refine al.out.mono ?_;rintro e bE ⟨a3,rfl,z,bw,J⟩;clear bi bj bk;go_upto_region 5 with fail
 generalize n:bm z _=aa at*;have p:Y z aa γ:=n▸(Y.refl z γ).alloc _;have am:θ aa z.heap.size 237 #[ω (N aI.heap.size),ω (N a7.heap.size)]:=n▸θ.new z _ _;clear n;have L:Y k aa γ:=(ao.out.2.trans J.out.1 Η).trans p Η;obtain⟨ab,ac,ad,ae⟩:=aj (L.blk f.out.b1 id);have a4:=am.cell 0;have a5:=am.cell 1;simp only[gz_] at a4 a5;obtain⟨av,aW,a1⟩:=J.out.2.2.2;have an:=K (yT (o1:=N aI.heap.size) (o2:=N a7.heap.size) (L0:=av) (aO.out.keeps (f.out.keeps.trans L Η) λ_ _ b=>b) ap.out (J.out.2.1.keeps p) (J.out.2.2.1.keeps p) aW (λh d=>a1 h (p.trans d Η)));simp only[bM] at an;have aQ:=K L;clear p am L a1 aW;have bq:=K (show((D Q.Β.toArray):BA).toList.isEmpty=Q.Β.isEmpty from by rw[iy]);generalize aY:((D Q.Β.toArray):BA)=y at*;generalize aZ:((D Q.name.toArray):BA)=B at*;have aL:=K (Φ aZ aY);clear aY aZ;go_cut [43] (λbl a=>∃R:Bool,bl=ι R/\η ((R=false->dU (ed eF mG aN) (uI W) av [] Q.Γ=N 0)/\Y aa a γ))
 case first=>
  cases bs:(B.toList==[105,116,101,109])
  .go_wp2_with fail;go_meet;exact⟨true,rfl,K ⟨nofun,Y.refl _ _⟩⟩
  go_wp2_with fail;refine an.out.mono ?_;rintro e bx ⟨rfl,aC⟩;have ar:=K aC;obtain⟨y0,C,F,G⟩:=aj ((aQ.out.trans aC Η).blk f.out.b1 id);clear aC ab ac ad ae;obtain⟨az,hfb⟩:∃az,az=decide (dU (ed eF mG aN) (uI W) av [] Q.Γ=N 0):=⟨_,rfl⟩;rw[<-hfb];have a9:=K hfb;clear hfb;cases az
  .go_wp2_with fail;go_meet;exact⟨true,rfl,K ⟨nofun,ar.out⟩⟩
  have a8:=K (of_decide_eq_true a9.out.symm);cases bt:y.toList.isEmpty
  .go_wp2_with fail;go_meet;exact⟨true,rfl,K ⟨nofun,ar.out⟩⟩
  go_wp2_with fail;go_meet;exact⟨decide (0<Q.Ξ.length),rfl,K ⟨λ_=>a8.out,ar.out⟩⟩
 case rest=>
 obtain⟨R,rfl,aM⟩:=hcut;generalize wc=bz at*;clear an ab ac ad ae a4 a5;have l:=K (aQ.out.trans aM.out.2 Η);obtain⟨ab,ac,ad,ae⟩:=aj (l.out.blk f.out.b1 id);have aP:=K f.out.b1;have g:=K f.out.b2;have aq:=K f.out.keeps;cases R
 .have bb:=K (aM.out.1 rfl)
  have aV:η (∀(nm:BA) h,Y k h γ->ν δ 229 #[Μ #[H B,V P Q.Γ.length O,H y,V T Q.Ξ.length S],H nm] h λe aH=>e=ξ (H (bK Q.Γ nm.data.toList))/\Y h aH γ/\η (Y k aH γ)):=K λnm h d=>by
   have:=Ac (aO.out.keeps (aq.out.trans d Η) λ_ _ b=>b) ap.out.1 nm.data.toList;simp only[bM] at this;have bc:((D nm.data.toList.toArray):BA)=nm:=by cases nm;simp
   rw[bc,aL.out.1,aL.out.2] at this;exact this.mono λe aH b=>⟨b.1,b.2,K (d.trans b.2 Η)⟩
  go_wp2_with fail;refine(aV.out _ _ l.out).mono ?_;rintro e bA ⟨rfl, -,au⟩;clear ab ac ad ae;have a2:(bK Q.Γ ((D #[115,117,98,115,99,114,105,112,116,105,111,110]):BA).data.toList).size<=1000000:=aJ (D7 (λbo bf=>(ap.out.2 bo bf).2) _) (by decide);generalize bK Q.Γ ((D #[115,117,98,115,99,114,105,112,116,105,111,110]):BA).data.toList=a6 at*;have HS:=K a2;clear a2;have m:η (∀a,Y k a γ->a.cell? (U w.heap.size 0 A)=N (H B)/\a.cell? (U w.heap.size 1 A)=N (V P Q.Γ.length O)/\a.cell? (U w.heap.size 2 A)=N (H y)/\a.cell? (U w.heap.size 3 A)=N (V T Q.Ξ.length S)):=K λa d=>aj (d.blk aP.out id);have aS:η (∀a r s t u,Y k a γ->(dB a (w.heap.size+1) r s t u).cell? (U w.heap.size 0 A)=N (H B)/\(dB a (w.heap.size+1) r s t u).cell? (U w.heap.size 1 A)=N (V P Q.Γ.length O)/\(dB a (w.heap.size+1) r s t u).cell? (U w.heap.size 2 A)=N (H y)/\(dB a (w.heap.size+1) r s t u).cell? (U w.heap.size 3 A)=N (V T Q.Ξ.length S)):=K λa r s t u d=>aj ((iI (F:=(·=w.heap.size+1)) (Y.refl a _) (.inl rfl)).blk (d.blk aP.out id) λb=>by have b:w.heap.size=w.heap.size+1:=b;omega);simp only[dB] at aS;go_upto_region 8 with fail
  go_region_held3 (λa=>a.cell? (U w.heap.size 0 A)=N (H B)/\a.cell? (U w.heap.size 1 A)=N (V P Q.Γ.length O)/\a.cell? (U w.heap.size 2 A)=N (H y)/\a.cell? (U w.heap.size 3 A)=N (V T Q.Ξ.length S))
   (first|(refine m.out _ ?_;(with_reducible first|exact c.out|exact au.out.drew))|(refine aS.out _ _ _ _ _ ?_;with_reducible exact c.out))
   (first|(go_at_call 229;refine(aV.out _ _ (by with_reducible first|exact c.out|exact au.out.drew)).mono ?_;rintro e bp ⟨rfl,bg,c⟩;(first|(have ay:=K (kk ay.out bg);have bh:=M.out bp ay.out)|skip);(first|clear z0 ah ai ak y0 C F G|skip);obtain⟨z0,ah,ai,ak⟩:=aj (c.out.blk g.out id);obtain⟨y0,C,F,G⟩:=dF (c.out.blk g.out id))|(go_at_call 337;refine aeh.mono ?_;rintro e aK ⟨br,rfl,aA⟩;obtain⟨aB,bd,M⟩:=aA.out.1.aaJ a6 HS.out;have M:=K M;have bh:=M.out aK (Y.refl _ _);have ay:=K (Y.refl aK γ);have c:η (Y k aK γ):=K (by with_reducible first|exact kk c.out aA.out.2|exact kk au.out.drew aA.out.2);(first|clear z0 ah ai ak y0 C F G|skip);obtain⟨z0,ah,ai,ak⟩:=aj (c.out.blk g.out id);obtain⟨y0,C,F,G⟩:=dF (c.out.blk g.out id)))
  all_goals
   have o:=K (aj (jz (a':=H (bK Q.Γ [106,105,100])) (b':=H (bK Q.Γ [110,97,109,101])) (c':=I E aB) (d':=ι (!(bK Q.Γ [97,115,107]).toList.isEmpty)) (c.out.blk g.out id)));have q:=K (iI (g:=w.heap.size+1) (a:=H (bK Q.Γ [106,105,100])) (b:=H (bK Q.Γ [110,97,109,101])) (c:=I E aB) (d:=ι (!(bK Q.Γ [97,115,107]).toList.isEmpty)) (kk aq.out c.out) (.inr (cV _)));simp only[dB] at o q;have aR:=K (aad bb.out);go_wp2;obtain⟨aD,aE,aF,aG⟩:=o.out;refine Ω (v:=σ #[Μ #[H (bK Q.Γ [106,105,100]),H (bK Q.Γ [110,97,109,101]),I E aB,ι (!(bK Q.Γ [97,115,107]).toList.isEmpty)],ι (a6.toList==[114,101,109,111,118,101]),ι true]) (by simp[ag,results286,go_sem,aD,aE,aF,aG]) rfl ?_;exact⟨_,_,_,_,_,_,rfl,aR.out.1,aR.out.2,bd,q.out⟩
 obtain⟨z0,ah,ai,ak⟩:=aj (l.out.blk g.out id);obtain⟨y0,C,F,G⟩:=dF (l.out.blk g.out id);have o:=K (aj (jz (a':=H (D #[])) (b':=H (D #[])) (c':=I E 0) (d':=ι false) (l.out.blk g.out id)));have q:=K (iI (g:=w.heap.size+1) (a:=H (D #[])) (b:=H (D #[])) (c:=I E 0) (d:=ι false) (kk aq.out l.out) (.inr (cV _)));simp only[dB] at o q;go_wp2;obtain⟨aD,aE,aF,aG⟩:=o.out;refine Ω (v:=σ #[Μ #[H (D #[]),H (D #[]),I E 0,ι false],ι false,ι false]) (by simp[ag,results286,go_sem,aD,aE,aF,aG]) rfl ?_;exact⟨_,_,_,_,_,_,rfl,by decide,by decide,by decide,q.out⟩
theorem Rp:prog.underlying 241=N (.map 9 239):=by kernel_rfl
def nH:BA:=(D #[104])
def vI(c:BA->Option cO):Prop:=∀nm b,c nm=N b->nm=nH\/∀a,b a=true->a.size<=40
def qI(c:Z)(d:Int)(f:Option Nat):Prop:=(6<=d/\d<=14)/\∃e,TM c (ω f) e/\vI e/\∃a:Int,(0<=a/\a<=1000)/\∀b,Y c b γ->(tC #[235] 3 #[ω f]).run δ b= .ok (I E a) b
def wW(a:Int)(b:Option Nat):ε:=Μ #[I E a,ω b,ω A]
theorem qI.keeps{b:Option Nat}(e:qI w m b)(a:Y w n γ):qI n m b:=by obtain⟨f,l,g,h,c,i,j⟩:=e;exact⟨f,l,g.keeps a,h,c,i,λd k=>j d (kk a k)⟩
theorem Ad:vI eF:=by intro nm b a;unfold eF at a;cases a
theorem qI.nil(a:Z)(c:6<=m/\m<=14):qI a m A:=⟨c,eF,TM.nil a,Ad,0,by decide,λb _=>Hv b⟩
theorem xG(f:vI P)(b:BA){c:cO}(g:b=nH\/∀d,c d=true->d.size<=40):vI (ed P b c):=λnm h a=>by
 unfold ed at a;split at a
 .next e=>injection a with a;subst a e;exact g
 exact f nm h a
def Bh(f g:Nat)(h:Z)(e:Int->Option Nat->Prop):Prop:=∃a,aC bR h f a g/\∀d,a d=A\/∃b c,a d=N (wW b c)/\e b c
theorem Bh.ins{e:Int->Option Nat->Prop}(h:Bh y k w e)(p:k<=100)(b:BA)(q:b.size<=1000)(c:Int)(d:Option Nat)(l:e c d):∃a,(fB 241 (ω (N y)) (H b) (Μ #[I E c,ω d,ω A])).run δ w= .ok () a/\Bh y (k+1) a e/\Y w a (·=y):=by
 obtain⟨r,i,j⟩:=h;obtain⟨a,o,n,m⟩:=i.store dG (t:=241) (e:=239) Rp (by unfold Χ;omega) (x:=b) (by show b.size<=Χ;unfold Χ;omega) (wW c d);refine⟨a,o,⟨_,n,λg=> ?_⟩,m⟩;by_cases f:g=b
 .subst f;rw[dJ];exact .inr ⟨c,d,rfl,l⟩
 rw[dI _ _ _ _ f];exact j g
def Ul(e:Z)(c:Int)(b:aI)(d:Z):Prop:=((∃a,b=ξ (σ #[aK a (V A 0 0),I E 0])/\fh a/\a.Θ=c/\a.aM=[])\/b=ξ (σ #[aK z0 (V A 0 0),I E 3]))/\Y e d γ
theorem Ip(f:vI P)(a:dU P eF m [] W=N C)(nm:Bt)(c:((D nm.toArray):BA)≠nH):(bK W nm).size<=40:=by
 obtain e|⟨d,t,e,h2⟩:=yU a nm
 .rw[e];decide
 unfold jC at e;cases b:P ⟨nm.toArray⟩ with
 |none=>rw[b] at e;simp[eF] at e
 |some g=>
  rw[b] at e;simp only[xZ,Prod.mk.injEq] at e;obtain⟨_,rfl⟩:=e;obtain a|a:=f _ _ b
  .exact ahN a c
  exact a _ h2
theorem adB(e:bX w j Q x i)(cf:qA Q.Γ)(ck:aT w){bt:Option Nat}(cW:qI w m bt):ν δ 160 #[wW m bt,bM Q x i] w (Ul w m):=by
 obtain⟨⟨G,F,rfl⟩,M,L,rfl⟩:=e.form;obtain⟨cl,cs,cn,co,bi,cc,cm⟩:=cW;have b5:=K e;have a9:=K cf;have cA:=K ck;have C:=K (Φ cn (Φ co (Φ cc cm)));have c6:=K cl;simp only[bM,wW] at*;clear e cf ck cn co cc cm cl;go_enter func160,ntmps160;go_upto_region 1 with fail
 generalize ce:bm (bm (bm w _) _) _=k at*;have o:=K (Hc ce);clear ce;have r:=K o.out.keeps;obtain⟨P,R,S,T⟩:=aj o.out.b2;have bv:=o.out.b1.cell 1;have bw:=o.out.b1.cell 2;simp only[gz_] at bv bw;have be:=K (yT (o1:=bt) (o2:=A) (L0:=bi) (b5.out.keeps r.out λ_ _ e=>e) a9.out (C.out.1.keeps r.out) (TM.nil k) C.out.2.2.1 (λb m=>C.out.2.2.2 b (kk r.out m)));simp only[bM] at be;have c7:=K (show((D Q.Β.toArray):BA).toList.isEmpty=Q.Β.isEmpty from by rw[iy]);generalize cg:((D Q.Β.toArray):BA)=J at*;generalize ch:((D Q.name.toArray):BA)=bd at*;have a7:=K (Φ ch cg);clear cg ch;have b7:=K o.out.b2;have q:=K o.out.b3;have cB:=K (show k.cell? (U w.heap.size 0 A)=N (I E m) from o.out.b1.cell 0);clear o;go_cut [22] (λc1 a=>∃bc:Bool,c1=ι bc/\η ((bc=false->dU cs eF bi [] Q.Γ=N 0)/\Y k a γ))
 case first=>
  go_wp2_with fail;refine be.out.mono ?_;rintro h d6 ⟨rfl,bs⟩;have bf:=K bs;obtain⟨y0,y,z,B⟩:=aj (bs.blk b7.out id);clear bs P R S T bv bw;obtain⟨bn,hfb⟩:∃bn,bn=decide (dU cs eF bi [] Q.Γ=N 0):=⟨_,rfl⟩;rw[<-hfb];have cy:=K hfb;clear hfb;cases bn
  .go_wp2_with fail;go_meet;exact⟨true,rfl,K ⟨nofun,bf.out⟩⟩
  have cx:=K (of_decide_eq_true cy.out.symm);cases cS:J.toList.isEmpty
  .go_wp2_with fail;go_meet;exact⟨true,rfl,K ⟨nofun,bf.out⟩⟩
  go_wp2_with fail;go_meet;exact⟨decide (0<Q.Ξ.length),rfl,K ⟨λ_=>cx.out,bf.out⟩⟩
 case rest=>
 obtain⟨bc,rfl,c⟩:=hcut;generalize wc=t at*;clear be P R S T bv bw;cases bc
 .have b6:=K (c.out.1 rfl);have VALS:∀(nm:BA) b,Y k b γ->bX b j Q (V G Q.Γ.length F) (V M Q.Ξ.length L):=λnm b m=>b5.out.keeps (kk r.out m) λ_ _ e=>e
  have b9:η (∀(nm:BA) b,Y k b γ->ν δ 229 #[Μ #[H bd,V G Q.Γ.length F,H J,V M Q.Ξ.length L],H nm] b λh n=>h=ξ (H (bK Q.Γ nm.data.toList))/\Y b n γ/\η (Y k n γ)):=K λnm b m=>by
   have:=Ac (VALS nm b m) a9.out.1 nm.data.toList;simp only[bM] at this;have bk:((D nm.data.toList.toArray):BA)=nm:=by cases nm;simp
   rw[bk,a7.out.1,a7.out.2] at this;exact this.mono λh n e=>⟨e.1,e.2,K (kk m e.2)⟩
  have bb:η (∀(nm:BA) b,Y k b γ->ν δ 233 #[Μ #[H bd,V G Q.Γ.length F,H J,V M Q.Ξ.length L],H nm] b λh n=>h=ξ (I Λ ((fQ (bK Q.Γ nm.data.toList)).getD 0))/\Y b n γ/\η (Y k n γ)):=K λnm b m=>by
   have:=NR (VALS nm b m) a9.out.1 (λc4 c0=>aJ (a9.out.2 c4 c0).2 (by decide)) (cA.out.still (kk r.out m)) nm.data.toList;simp only[bM] at this;have bk:((D nm.data.toList.toArray):BA)=nm:=by cases nm;simp
   rw[bk,a7.out.1,a7.out.2] at this;exact this.mono λh n e=>⟨e.1,e.2,K (kk m e.2)⟩
  clear VALS;have cb:=K (b9.out ⟨#[112,114,101,118,105,100]⟩);have bb:=K (bb.out ⟨#[104]⟩);have cR:=K (Ip C.out.2.1 b6.out [112,114,101,118,105,100] (by decide));have cJ:=K (Ip C.out.2.1 b6.out [105,100] (by decide))
  have cI:η (eB ((fQ (bK Q.Γ [104])).getD 0)):=K (by
   cases cU:fQ (bK Q.Γ [104]) with
   |none=>unfold eB;exact⟨by decide,by decide⟩
   |some dm=>exact Wm cU)
  change η (∀b,_->ν _ _ _ _ λh n=>h=ξ (H (bK Q.Γ [112,114,101,118,105,100]))/\_/\_) at cb;change η (∀b,_->ν _ _ _ _ λh n=>h=ξ (I Λ ((fQ (bK Q.Γ [104])).getD 0))/\_/\_) at bb;generalize bK Q.Γ [112,114,101,118,105,100]=ct at*;generalize(fQ (bK Q.Γ [104])).getD 0=O at*;have b8:η (∀a,Y k a γ->a.cell? (U w.heap.size 0 A)=N (I E m)/\a.cell? ⟨w.heap.size+1,0,A⟩=N (H bd)/\a.cell? ⟨w.heap.size+1,1,A⟩=N (V G Q.Γ.length F)/\a.cell? ⟨w.heap.size+1,2,A⟩=N (H J)/\a.cell? ⟨w.heap.size+1,3,A⟩=N (V M Q.Ξ.length L)):=K λa m=>⟨az m cB.out id,aj (m.blk b7.out id)⟩;go_upto_region 3 with fail
  go_cut [6] (λc2 a=>∃s:Nat,c2=π (N (U s 0 A))/\η (θ a s 171 #[I E m,H (D #[]),H (D #[]),H (D #[]),H (D #[]),H (D #[]),H ct,H (D #[]),I Λ O,I E 0,ι false,V A 0 0]/\t.heap.size<=s/\Y k a γ))
  case first=>
   go_region_held3 (λa=>a.cell? (U w.heap.size 0 A)=N (I E m)/\a.cell? ⟨w.heap.size+1,0,A⟩=N (H bd)/\a.cell? ⟨w.heap.size+1,1,A⟩=N (V G Q.Γ.length F)/\a.cell? ⟨w.heap.size+1,2,A⟩=N (H J)/\a.cell? ⟨w.heap.size+1,3,A⟩=N (V M Q.Ξ.length L))
    (first|(refine b8.out _ ?_;(first|with_reducible exact l.out|with_reducible exact Y.alloc l.out _|with_reducible exact c.out.2.drew|with_reducible exact(c.out.2.alloc _).drew|exact qa l.out (.inr (aJ c.out.2.size d.out.1)))))
    (first|(go_at_call 229;refine(cb.out _ (by with_reducible first|exact l.out|exact Y.alloc l.out _|exact c.out.2.drew|exact(c.out.2.alloc _).drew)).mono ?_;rintro h c5 ⟨rfl,f,l⟩;(first|(have d:=K (d.out.keeps f))|(with_reducible have d:=K ((Ib (w6:=t)).keeps f))|(with_reducible have d:=K ((C6 g).keeps f))|skip);(first|(clear ao au av aw a0 a1 a2 a3 a4 a5 ap aq y0 y z B ab ac ad al am an W X)|skip);(first|(have br:=aS d.out.2;have bq:=dj d.out.2;obtain⟨ao,au,av,aw,a0,a1,a2,a3,a4,a5,ap,aq⟩:=br;obtain⟨y0,y,z,B,ab,ac,ad,al,am,an,W,X⟩:=bq)|skip);(first|(have g:=K (kk g.out f))|(with_reducible have g:=K (kk (Y.alloc g.out _) f))|(with_reducible have g:=K (kk (Y.refl t γ).drew f))|(with_reducible have g:=K (kk ((Y.refl t γ).alloc _).drew f))))|(go_at_call 233;refine(bb.out _ (by with_reducible first|exact l.out|exact Y.alloc l.out _|exact c.out.2.drew|exact(c.out.2.alloc _).drew)).mono ?_;rintro h c5 ⟨rfl,f,l⟩;(first|(have d:=K (d.out.keeps f))|(with_reducible have d:=K ((Ib (w6:=t)).keeps f))|(with_reducible have d:=K ((C6 g).keeps f))|skip);(first|(clear ao au av aw a0 a1 a2 a3 a4 a5 ap aq y0 y z B ab ac ad al am an W X)|skip);(first|(have br:=aS d.out.2;have bq:=dj d.out.2;obtain⟨ao,au,av,aw,a0,a1,a2,a3,a4,a5,ap,aq⟩:=br;obtain⟨y0,y,z,B,ab,ac,ad,al,am,an,W,X⟩:=bq)|skip);(first|(have g:=K (kk g.out f))|(with_reducible have g:=K (kk (Y.alloc g.out _) f))|(with_reducible have g:=K (kk (Y.refl t γ).drew f))|(with_reducible have g:=K (kk ((Y.refl t γ).alloc _).drew f)))))
   all_goals
    go_wp2_with fail;go_meet;refine⟨_,rfl,K ⟨?_,?_,?_⟩⟩
    .first
      |with_reducible exact θ.new _ _ _
      |exact wZ d.out.2
    .first
      |exact d.out.1
      |exact g.out.size
    .first
      |with_reducible exact Y.alloc l.out _
      |exact qa l.out (.inr (aJ c.out.2.size d.out.1))
  case rest=>
  obtain⟨s,rfl,p⟩:=hcut;generalize wc=c3 at*;obtain⟨P,R,S,T,cu⟩:=b8.out c3 p.out.2.2;go_upto_if 33 with fail
  go_cut [] (λa=>∃tk:BA,η (tk.size<=40/\θ a s 171 #[I E m,H (D #[]),H (D #[]),H (D #[]),H (D #[]),H (D #[]),H tk,H (D #[]),I Λ O,I E 0,ι false,V A 0 0]/\Y k a γ))
  case first=>
   cases dl:(m==7)
   .go_wp2_with fail;go_meet;exact⟨ct,K ⟨cR.out,p.out.1,p.out.2.2⟩⟩
   go_wp2_with fail;refine(b9.out _ _ p.out.2.2).mono ?_;rintro h d7 ⟨rfl,cq,cD⟩;have a6:=cq.blk p.out.1 id;have dc:=a6.cell 6;have da:=a6.frozen 6;have cv:=K a6;clear cq a6 P R S T cu;go_wp2_with fail;go_meet;exact⟨_,K ⟨cJ.out,(cv.out.χ 6 _).to (by simp),cD.out.χ (p:=(U s 6 A)) (.inr (aJ c.out.2.size p.out.2.1)) _⟩⟩
  case rest=>
  obtain⟨tk,u⟩:=hcut;generalize wc=d8 at*;clear P R S T cu;obtain⟨dn,dt,dv,dx,d0,d1,d2,d3,d4,d5,dp,ds⟩:=aS u.out.2.1;obtain⟨ao,au,av,aw,a0,a1,a2,a3,a4,a5,ap,aq⟩:=aS (u.out.2.2.blk q.out id);obtain⟨y0,y,z,B,ab,ac,ad,al,am,an,W,X⟩:=dj (u.out.2.2.blk q.out id);have c9:s≠w.heap.size+1+1:=by have dd:=p.out.2.1;have dg:=q.out.lt;have cS:=c.out.2.size;omega
  obtain⟨a8,ba,c8⟩:=mS ⟨m,(D #[]),(D #[]),(D #[]),(D #[]),(D #[]),tk,(D #[]),O,0,false,[]⟩ 0 false (V A 0 0) (u.out.2.2.blk q.out id) (kk r.out u.out.2.2) (.inr (by omega));simp only[kZ,iJ] at a8 ba;go_wp2;obtain⟨bx,bz,bE,bF,bN,b0,b1,b2,b3,b4,bA,bB⟩:=a8.out;refine Ω (v:=σ #[Μ #[I E m,H (D #[]),H (D #[]),H (D #[]),H (D #[]),H (D #[]),H tk,H (D #[]),I Λ O,I E 0,ι false,V A 0 0],I E 0]) (by simp[ag,results160,go_sem,bx,bz,bE,bF,bN,b0,b1,b2,b3,b4,bA,bB]) rfl ?_;have dk:=u.out.1;exact⟨.inl ⟨⟨m,(D #[]),(D #[]),(D #[]),(D #[]),(D #[]),tk,(D #[]),O,0,false,[]⟩,rfl,⟨ai _,ai _,ai _,ai _,ai _,by simp only;omega,ai _,cI.out,ai _,nofun⟩,rfl,rfl⟩,ba.out⟩
 obtain⟨ao,au,av,aw,a0,a1,a2,a3,a4,a5,ap,aq⟩:=aS (c.out.2.blk q.out id);obtain⟨y0,y,z,B,ab,ac,ad,al,am,an,W,X⟩:=dj (c.out.2.blk q.out id);obtain⟨a8,ba⟩:=kh (c.out.2.blk q.out id) (kk r.out c.out.2) (.inr (by omega));go_wp2;obtain⟨bx,bz,bE,bF,bN,b0,b1,b2,b3,b4,bA,bB⟩:=a8.out;refine Ω (v:=σ #[ez,I E 3]) (by simp[ez,ag,results160,go_sem,bx,bz,bE,bF,bN,b0,b1,b2,b3,b4,bA,bB]) rfl ?_;exact⟨.inr rfl,ba.out⟩
theorem Oe(i:aZ w x o){k:Nat}(g:k<o.length):∃a b f,x=V (N (U a b A)) o.length f/\∃(q n:BA) (c:Int) (e:Bool),w.cell? ⟨a,b+k*4,A⟩=N (H q)/\w.cell? ⟨a,b+k*4+1,A⟩=N (H n)/\w.cell? ⟨a,b+k*4+2,A⟩=N (I E c)/\w.cell? ⟨a,b+k*4+3,A⟩=N (ι e):=by
 obtain⟨p,f,rfl,_,j,l⟩:=i;cases p with
 |none=>rw[j rfl] at g;cases g
 |some e=>
  obtain⟨a,b,r⟩:=e;obtain⟨h,m⟩:=l _ rfl;simp only at h;subst h;have d:∀c x,(eW o[k])[c]? =N x->w.cell? ⟨a,b+k*4+c,A⟩=N x:=λc x hv=>by have:=m (k*4+c) x (CG o k g c x hv);rw[<-this,mW]
  exact⟨a,b,f,rfl,_,_,_,_,d 0 _ rfl,d 1 _ rfl,d 2 _ rfl,d 3 _ rfl⟩
theorem aZ.dw{B:Nat}{v:ε}{l:List It}(e:w.ownsRow B 150 4 v l.length (ej l))(d:l.length<=1000000):aZ w v l:=by
 obtain⟨rfl,c⟩|⟨n,k,m,rfl,o,f,q,p,r,h⟩:=e.2
 .exact⟨A,0,by rw[c],d,λ_=>kG.1 c,nofun⟩
 refine⟨_,_,rfl,d,nofun,λj a=> ?_⟩;injection a with a;subst a;refine⟨rfl,λi s b=> ?_⟩;have g:i<l.length*4:=by have:=(iN.1 b).1;rw[Z7] at this;exact this
 rw[<-h,List.getElem?_take,ahM g] at b;rw[eP];simpa[World.cell?,f] using b
theorem Z8(h i f g:BA)(d e:Int)(b c:Bool):∃j,∀a,(binOp .neq 150 (Μ #[H h,H f,I E d,ι b]) (Μ #[H i,H g,I E e,ι c])).run δ a= .ok (ι j) a:=by
 by_cases k:h.toList=i.toList
 .by_cases l:f.toList=g.toList
  .by_cases m:d=e
   .by_cases n:b=c
    .exact⟨false,λa=>by go_simp⟩
    exact⟨true,λa=>by go_simp⟩
   exact⟨true,λa=>by go_simp⟩
  exact⟨true,λa=>by go_simp⟩
 exact⟨true,λa=>by go_simp⟩
theorem XY{w:Z}{b:List It}(d:aZ w x o)(e:aZ w i b):ν δ 347 #[x,i] w (oh w):=by
 have G:=d;have J:=e;obtain⟨a2,am,rfl,au, -⟩:=G;obtain⟨a3,ao,rfl,av, -⟩:=J;have g:=K (Φ d e);clear d e;go_enter func347,ntmps347;by_cases f:o.length=b.length
 .skip
  have Q:((o.length:Int)!=(b.length:Int))=false:=by simp[f]
  go_wp2_with fail;have c:=K f;clear f;go_loopg [13,5] o.length (λF X a4 wr=>∃a:Nat,F+a=o.length/\X=I E a/\η (Y w wr γ))
  case atStart=>exact⟨0,by omega,rfl,K (Y.refl _ _)⟩
  obtain⟨a,aq,rfl,h⟩:=hrel;cases gk with
  |succ gk=>
   have L:a<o.length:=by omega
   have M:(a:Int)<o.length:=by omega
   have O:(a:Int)<b.length:=by have:=c.out;omega
   obtain⟨ad,a0,an,hv,ab,nm,R,t,k,l,m,n⟩:=Oe g.out.1 L;obtain⟨al,a1,ap,P,ac,T,S,u,p,q,r,s⟩:=Oe (k:=a) g.out.2 (by have:=c.out;omega);injection hv with y _ B;injection P with z _ C;subst y z B C;have kk:=h.out.drew;replace k:=az kk k id;replace l:=az kk l id;replace m:=az kk m id;replace n:=az kk n id;replace p:=az kk p id;replace q:=az kk q id;replace r:=az kk r id;replace s:=az kk s id;obtain⟨W,aw⟩:=Z8 ab ac nm T R S t u;have j:=K kk;clear kk;go_wp2_with fail;go_region
   cases W
   .go_wp2_with fail;go_roundg gk
    case rel=>exact⟨a+1,by omega,by go_num,j⟩
    case measure=>omega
   go_wp2;go_ret;exact⟨⟨_,rfl⟩,j.out⟩
  |zero=>
   have M:¬(a:Int)<o.length:=by omega
   have O:¬(a:Int)<b.length:=by have:=c.out;omega
   go_wp2;go_ret;exact⟨⟨_,rfl⟩,h.out⟩
 have Q:((o.length:Int)!=(b.length:Int))=true:=by simp;omega
 go_wp2;go_ret;exact⟨⟨_,rfl⟩,Y.refl _ _⟩
def Sl(f:Z)(c:Int)(g:aI)(e:Z):Prop:=(∃a v d,g=ξ (σ #[aK a v,ι d])/\fh a/\aZ e v a.aM/\(∀b,v.ownBlock=N b->f.heap.size<=b)/\a.Θ=c/\(d=true->c=3->a.aM.length=1))/\Y f e γ
theorem fW.Om(f:fW Q):∀a∈Q.Ξ,qA a.Γ:=by
 cases f with
 |mk l e m k g b c h i d=>
  intro a j;have:=d a j;cases this with
  |mk l e m k g b c h i d=>exact⟨b,c⟩
def Ps:BA:=(D #[118,101,114])
noncomputable def Js:BA->Option cO:=ed eF Ps zE
theorem ahi(c:aT w):∃a,(fB 235 (ω (N w.heap.size)) (H (D #[118,101,114])) (af (.func 285) #[] #[])).run δ (w.alloc (.map #[] 0))= .ok () a/\Y w a γ/\TM a (ω (N w.heap.size)) Js:=by obtain⟨a,e,_,d,b⟩:=jb.first (abF c) Ps (by decide);exact⟨a,e,d,(b (λ_=>True) trivial).tm (by decide)⟩
structure nY (w W3 wr:Z) (z:cp) (vv:Int) (k:Nat) (l:List It) (rm:Bool) (v:ε):Prop where
 keeps:Y W3 wr (·=w.heap.size)
 blk:θ wr w.heap.size 171 #[I E z.Θ,H z.bV,H z.id,H z.src,H z.dst,H z.cE,H z.bQ,H z.dK,I Λ z.h,I E vv,ι rm,v]
 own:wr.ownsRow W3.heap.size 150 4 v k (ej l)
 len:l.length=k
 size:∀x∈l,x.1.size<=100/\x.2.1.size<=100
theorem nY.aM{c:cp}(a:nY w n G c m y o f x)(d:y<=16):aZ G x o:=aZ.dw (B:=n.heap.size) (by have b:=a.len;subst b;exact a.own) (by have:=a.len;omega)
theorem Dc{c:Nat}(e:w.ownsRow y M d x k a)(f:c<=y):∀b,x.ownBlock=N b->c<=b:=λb M=>aJ f (e.lt b M).1
theorem nY.Da{d:Z}{h:cp}(b:nY w n G h m y o f x)(j:y<=16)(g:Y G d (·=w.heap.size+1+1))(i:w.heap.size+1+1<n.heap.size):aZ d x o:=
 aZ.dw (B:=n.heap.size) (by have a:=b.len;subst a;exact aD b.own g λc e a=>by have:=(b.own.lt c e).1;have a:c=w.heap.size+1+1:=a;omega) (by have:=b.len;omega)
theorem nY.more{d:Z}{l:cp}{rm':Bool}{v:ε}(b:nY w n G l m o.length o f v)(x:It)(q:x.1.size<=40/\x.2.1.size<=40)(k:d.ownsRow n.heap.size 150 4 i (o.length+1) (ej o++eW x))(g:Y G d (λg=>v.ownBlock=N g))(h:w.heap.size+1+1<n.heap.size):nY w n ((d.setCell (U w.heap.size 11 A) i).setCell (U w.heap.size 10 A) (ι rm')) l m (o.length+1) (o++[x]) rm' i:=by
 have p:¬v.ownBlock=N w.heap.size:=λa=>by have:=(b.own.lt _ a).1;omega
 have j:Y d ((d.setCell (U w.heap.size 11 A) i).setCell (U w.heap.size 10 A) (ι rm')) (·=w.heap.size):=((Y.refl d (·=w.heap.size)).χ (p:=(U w.heap.size 11 A)) (.inl rfl) _).χ (p:=(U w.heap.size 10 A)) (.inl rfl) _;refine⟨(b.keeps.trans g λe a=> .inr (b.own.lt e a).1).trans j λ_ b=> .inl b,(((g.blk b.blk p).χ 11 _).χ 10 _).to (by simp),?_,by simp,λy c=> ?_⟩
 .have a:ej (o++[x])=ej o++eW x:=by simp[ej]
  rw[a];exact aD k j λe a h=>by have:=(k.lt e a).1;have h:e=w.heap.size:=h;omega
 obtain c|c:=List.mem_append.1 c
 .exact b.size y c
 rw[List.mem_singleton] at c;subst c;omega
def SM(i:Z)(g:Nat)(d:BA->Option cO)(h:Nat):Prop:=∃b,aC bR i g b h/\∀a,(b a=A/\d a=A)\/∃f e,b a=N f/\d a=N e/\∀c,aT c->gZ c f e
theorem SM.made(a:Z):SM (a.alloc (.map #[] 0)) a.heap.size eF 0:=⟨_,aC.made bR a,λ_=> .inl ⟨rfl,rfl⟩⟩
theorem SM.ins(g:SM w y P k){c:cO}(n:∀f,aT f->gZ f x c)(a:BA)(p:a.size<=1000)(o:k<=1000):∃b,(fB 235 (ω (N y)) (H a) x).run δ w= .ok () b/\SM b y (ed P a c) (k+1)/\Y w b (·=y):=by
 obtain⟨q,h,i⟩:=g;obtain⟨b,m,l,j⟩:=h.store dG (t:=235) (e:=92) tg (by unfold Χ;omega) (x:=a) (by show a.size<=Χ;unfold Χ;omega) x;refine⟨b,m,⟨_,l,λd=> ?_⟩,j⟩;by_cases e:d=a
 .subst e;exact .inr ⟨x,c,dJ _ _ _,by simp[ed],n⟩
 rw[dI _ _ _ _ e];have:ed P a c d=P d:=by simp[ed,e]
 rw[this];exact i d
theorem SM.keeps{w a:Z}{F:Bs}(b:SM w y P k)(f:Y w a F)(e:¬F y):SM a y P k:=by obtain⟨g,c,d⟩:=b;exact⟨g,c.keeps f e,d⟩
def rJ(g f:Z)(b:Int)(e:Option Nat):Prop:=(6<=b/\b<=14)/\(e=A\/∃a c d,e=N a/\g.heap.size<=a/\SM f a c d/\d<=1000/\vI c)
theorem rJ.keeps{c:Z}{d:Option Nat}{F:Bs}(g:rJ w c m d)(i:Y c G F)(hF:∀e,F e->e<w.heap.size):rJ w G m d:=by
 obtain⟨h,a⟩:=g;refine⟨h,?_⟩;obtain a|⟨b,mu,n,a,h3,h4,h5,h6⟩:=a
 .exact .inl a
 exact .inr ⟨b,mu,n,a,h3,h4.keeps i (λf=>by have:=hF b f;omega),h5,h6⟩
theorem rJ.at_{a:Z}{k:Int}{e:Option Nat}(c:rJ w a k e)(i:aT a):qI a k e:=by
 obtain⟨d,h⟩:=c;obtain rfl|⟨b,mu,n,rfl,h3,⟨m,h4,h4'⟩,h5,h6⟩:=h
 .exact qI.nil _ d
 obtain⟨f,q,j⟩:=h4.OH (t:=235) (e:=92) tg 3;refine⟨d,mu,.inr ⟨b,n,m,rfl,h4,h5,λo=> ?_⟩,h6,f,by omega,λg l=>j g (l.block b h4.lt id)⟩;obtain c|⟨tv,p,q1,q2,q3⟩:=h4' o
 .exact .inl c
 exact .inr ⟨tv,p,q1,q2,q3 a i⟩
def FM(h e:Z)(g:Nat):Prop:=∀f:BA,f.size<=1000000->∃(b:Int) (c:Option Nat) (d:Bool),(d=true->rJ h e b c)/\∀a,Y e a γ->(cw 241 (ω (N g)) (H f) true).run δ a= .ok (σ #[Μ #[I E b,ω c,ω A],ι d]) a
theorem acm  :ν δ 159 #[] w λav am=>∃c,av=ξ (ω (N c))/\η (Y w am γ/\FM w am c):=by
 have az:= @run_makeMap δ;have t:∀e,aT e->gZ e (af (.func 230) #[] #[]) nU:=λe a=>D8 a;have s:∀e,aT e->gZ e (af (.func 232) #[] #[]) (λr=>(fQ r).isSome):=λe a=>Wp a;obtain⟨h,aD,J,j1⟩:=(SM.made w).ins t ⟨#[105,100]⟩ (by decide) (by decide);have F:w.heap.size<h.heap.size:=by have:=j1.size;simp at this;omega
 obtain⟨g,aw,L,q⟩:=(SM.made h).ins s nH (by decide) (by decide);have G:h.heap.size<g.heap.size:=by have:=q.size;simp at this;omega
 obtain⟨aX,ax,M,j3⟩:=(SM.made g).ins s nH (by decide) (by decide);obtain⟨b,aE,O,j4⟩:=M.ins t ⟨#[112,114,101,118,105,100]⟩ (by decide) (by decide);have H:g.heap.size<b.heap.size:=by have ap:=j3.size;have ay:=j4.size;simp at ap;omega
 have o:Y h g (·=h.heap.size):=((Y.refl h _).alloc _).trans q λ_ a=> .inl a;have l:Y g b (·=g.heap.size):=(((Y.refl g _).alloc _).trans j3 λ_ a=> .inl a).trans j4 λ_ a=> .inl a;let ao:Int->Option Nat->Prop:=λf j=>(6<=f/\f<=14)/\(j=A\/j=N w.heap.size\/j=N h.heap.size\/j=N g.heap.size);have P:Bh b.heap.size 0 (b.alloc (.map #[] 0)) ao:=⟨_,aC.made bR b,λ_=> .inl rfl⟩;obtain⟨aO,aF,Q,ac⟩:=P.ins (by decide) ⟨#[101,110,97,98,108,101]⟩ (by decide) 6 A ⟨by decide,.inl rfl⟩;obtain⟨aP,aG,R,ad⟩:=Q.ins (by decide) ⟨#[114]⟩ (by decide) 8 A ⟨by decide,.inl rfl⟩;obtain⟨aQ,aH,S,ae⟩:=R.ins (by decide) ⟨#[102,97,105,108,101,100]⟩ (by decide) 12 A ⟨by decide,.inl rfl⟩;obtain⟨aR,aI,T,ag⟩:=S.ins (by decide) ⟨#[97,99,116,105,118,101]⟩ (by decide) 13 A ⟨by decide,.inl rfl⟩;obtain⟨aS,aJ,V,ah⟩:=T.ins (by decide) ⟨#[105,110,97,99,116,105,118,101]⟩ (by decide) 14 A ⟨by decide,.inl rfl⟩;obtain⟨aU,aK,W,ai⟩:=V.ins (by decide) ⟨#[101,110,97,98,108,101,100]⟩ (by decide) 7 (N w.heap.size) ⟨by decide,.inr (.inl rfl)⟩;obtain⟨aV,aL,X,aj⟩:=W.ins (by decide) ⟨#[97]⟩ (by decide) 9 (N h.heap.size) ⟨by decide,.inr (.inr (.inl rfl))⟩;obtain⟨aW,aM,aa,ak⟩:=X.ins (by decide) ⟨#[114,101,115,117,109,101]⟩ (by decide) 10 (N g.heap.size) ⟨by decide,.inr (.inr (.inr rfl))⟩;obtain⟨n,aN,ab,al⟩:=aa.ins (by decide) ⟨#[114,101,115,117,109,101,100]⟩ (by decide) 11 (N g.heap.size) ⟨by decide,.inr (.inr (.inr rfl))⟩;have k:Y b n (·=b.heap.size):=by have aq:Y b (b.alloc (.map #[] 0)) (·=b.heap.size):=(Y.refl b _).alloc _;have i:∀ {u c:Z},Y b u (·=b.heap.size)->Y u c (·=b.heap.size)->Y b c (·=b.heap.size):=λa f=>a.trans f λ_ a=> .inl a;exact i (i (i (i (i (i (i (i (i aq ac) ad) ae) ag) ah) ai) aj) ak) al
 have x:∀c,c<h.heap.size->¬(c=h.heap.size):=λc a y=>by omega
 have p:∀c,c<g.heap.size->¬(c=g.heap.size):=λc a y=>by omega
 have m:∀c,c<b.heap.size->¬(c=b.heap.size):=λc a y=>by omega
 have B:=((J.keeps o (x _ F)).keeps l (p _ (by omega))).keeps k (m _ (by omega));have C:=(L.keeps l (p _ G)).keeps k (m _ (by omega));have E:=O.keeps k (m _ H);have z:∀d,d=w.heap.size->γ d\/w.heap.size<=d:=λd a=> .inr (by omega)
 have an:η (Y w n γ/\FM w n b.heap.size):=K (by
  refine⟨((((((Y.refl w γ).alloc _).trans j1 z).trans o λd a=> .inr (by have a:d=_:=a;omega)).trans l λd a=> .inr (by have a:d=_:=a;omega))).trans k λd a=> .inr (by have a:d=_:=a;omega),λd aA=> ?_⟩;obtain⟨aB,ar,au⟩:=ab;have I:=λe (f:Y n e γ)=>(ar.keeps f id).look_ok dG (t:=241) (e:=239) Rp (z:=wW 0 A) (by kernel_rfl) (x:=d) (by show d.size<=Χ;unfold Χ;omega);obtain a|⟨f,j,a,hk,ho⟩:=au d
  .exact⟨0,A,false,nofun,λe f=>by have:=I e f;rw[a] at this;exact this⟩
  refine⟨f,j,true,λ_=>⟨hk,?_⟩,λe f=>by have:=I e f;rw[a] at this;exact this⟩;obtain rfl|rfl|rfl|rfl:=ho
  .exact .inl rfl
  .exact .inr ⟨_,_,_,rfl,Ο _,B,by decide,xG Ad _ (.inr λr=>xH)⟩
  .exact .inr ⟨_,_,_,rfl,by omega,C,by decide,xG Ad _ (.inl rfl)⟩
  exact .inr ⟨_,_,_,rfl,by omega,E,by decide,xG (xG Ad _ (.inl rfl)) _ (.inr λr=>xH)⟩)
 clear t s J j1 L q M j3 O j4 o l P Q R S T V W X aa ab ac ad ae ag ah ai aj ak al k B C E x p m z F G H;simp only[nH] at aw ax;go_enter func159,ntmps159;go_wp2;go_ret;exact⟨_,rfl,an⟩
