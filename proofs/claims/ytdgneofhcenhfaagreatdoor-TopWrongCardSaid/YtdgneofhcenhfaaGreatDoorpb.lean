/- A part of the proof of TopWrong. -/
import Derived.Test.YtdgneofhcenhfaaGreatDoorpa
import Derived.Shelf.Unicode.ValidAny
import Derived.Shelf.Strings.Cut
import Derived.Shelf.SlicesE.DeleteFunc
import Derived.Shelf.Spec.SlicesGrow
import Derived.Ground.Names7Prog
import Derived.Lib.OwnBridge
import Derived.Deep.Upon
import Derived.Lib.SlicesS
import Derived.Deep.WholeRow
set_option maxHeartbeats 16000000
set_option maxRecDepth 100000
set_option linter.all false
open And renaming intro->Φ
open Array renaming getElem?_modify->Jz,getElem?_setIfInBounds->Ai,getElem?_setIfInBounds_ne->tA,length_toList->gI
open ByteArray renaming empty->kj,mk->D
open Go renaming Addr->ay,Calls->ν,Ending->aI,TypeId->aQ,Value->ε,World->Z,bodyPost_ret->Ω,maxLen->Χ,results->ag
open Go.Addr renaming add->jm,mk->U
open Go.BinOp renaming and->qm
open Go.Builtin renaming append_->gJ
open Go.Ending renaming returned->ξ
open Go.Instr renaming lookup->cw,makeSlice->Ej,mapUpdate->fB
open Go.IntKind renaming i64->E,u32->Λ,u8->bh
open Go.IntWalk renaming wrap64_in->qq
open Go.Lib renaming hid->K
open Go.Obj renaming cells->ζ
open Go.Proofs renaming intOf->aB
open Go.Proofs.Tryz renaming func103->Er,func307->JO,ntmps103->Eu,prog->δ,results311->Aw
open Go.Region renaming wanted->Ay
open Go.Result renaming andThen->Az
open Go.RowKit renaming Below->bH,Hid->η,intOf->jE
open Go.RowKit.Below renaming heap_setCell->JX,refl->iz
open Go.Sem renaming run->nW,run_pure->JY
open Go.Value renaming agg->Μ,bool->ι,cells->vl,int->I,map->ω,ownBlock->iM,pointer->π,slice->V,string->H,tuple->σ
open Go.World renaming cell?->fN,ownsRow_nil->db,setCell->eH
open Go.World.grownBy renaming refl->tK
open Iff renaming rfl->fT
open List renaming eq_nil_of_length_eq_zero->AC,getElem?_eq_getElem->cT,getElem?_eq_none->J5,getElem?_eq_some_iff->iN,getElem?_map->ml,getElem?_toArray->Ρ,getElem_mem->eA,length_append->cL,length_cons->eI,length_filter_le->jo,length_take->lO,map_append->lP,map_cons->lm,map_nil->nX,mem_append->dO,mem_cons->dD,mem_filter->dE,mem_map->eO,mem_of_getElem?->ln,mem_singleton->cj,nil_append->AI,not_mem_nil->xU,replicate->qz,sum_cons->xV,sum_nil->AN,take->xW,take_of_length_le->mo,take_succ_eq_append_getElem->lq
open Nat renaming le_refl->Ο,le_trans->aJ,lt_of_lt_of_le->dQ,lt_or_ge->fU,min_eq_left->AU,zero_add->eP,zero_le->ai
open Option renaming none->A,some->N
open Option.some renaming injEq->xZ
open UInt8 renaming ofNat->lQ
open Go Go.RowKit Go.Lib Go.Proofs.Tryz
namespace Go.Proofs.YtdgneofhcenhfaaGreatDoor
attribute [local go_sem ↓] Go.wp_at_zero Go.wp_at_succ
section
open Go.Shelf
def agc:Go.Shelf.Ren:=⟨fun|196=>215|259=>280|a=>a,fun|9=>9|4=>4|3=>3|5=>5|12=>12|119=>342|0=>0|46=>39|139=>345|138=>344|53=>32|a=>a,fun|3=>1|4=>2|a=>a⟩
theorem Q':Go.Proofs.Lays.n196 δ agc:=by constructor<;>first|kernel_rfl|(intros;kernel_rfl)
open Go.RowKit Go.Lib Go.Shelf
attribute [local go_sem ↓] Go.wp_at_zero Go.wp_at_succ
theorem iZ:prog.underlying 113=N (.slice 5):=by kernel_rfl
theorem agX:prog.underlying 5=N (.int bh):=by kernel_rfl
theorem LZ(c:Z)(b:BA):∃d e,(convert 9 113 (H b)).run δ c= .ok (V (N (U c.heap.size 0 A)) b.size d) e/\Y c e γ/\c.heap.size<e.heap.size/\∀a d,b.data.toList[a]? =N d->e.cell? (U c.heap.size a A)=N (I bh d.toNat):=by
 refine⟨_,_,run_bytes_of_string c 9 113 5 b lj iZ agX,((Y.refl c γ).drew).alloc _,by simp,?_⟩;intro a d f
 have g:a<b.size:=by
  obtain h|h:=fU a b.data.toList.length
  .rwa [Lib.size_eq]
  rw[J5 h] at f;cases f
 rw[cell_of_row _ c.heap.size a _ 5 _ (heap_alloc_new c.drew _),bytesRow_at b _ a g];have:b[a]=d:=by have:=Lib.data_getElem? b a g;rw[f] at this;injection this with this;exact this.symm
 have:b.data[a]=d:=this;rw[this]
theorem rj(a:BA):a.size=a.data.toList.length:=Lib.size_eq a
theorem yx(b:BA)(ah:b.size<=9223372036854775807)(z:Z):ν δ 219 #[H b] z λw X=>w=ξ (ι (iH b.data.toList))/\Y z X γ:=by
 obtain⟨e,aa,g,h,aj,cells⟩:=LZ z b;have R:=rj b;have u:=K R;clear R;go_enter func219,ntmps219;go_wp2_with fail;go_loopw [3,4,5,6,10] (λ_ _ _ _ x wr=>∃c:Nat,x=I E c/\c<=b.size/\wr=aa/\∀d e,d<c->b.data.toList[d]? =N e->(nM e||(!(true&&d==0)&&oH e))=true) (λ_ _ _ _ x _=>b.size-(jE x).toNat)
 case atStart=>exact⟨0,rfl,ai _,rfl,λd e f=>ahN f (Nat.not_lt_zero _)⟩
 obtain⟨c,rfl,ae,rfl,Q⟩:=hrel;have G:=K Q;clear Q;by_cases ag:c<b.size
 .have W:(c:Int)<b.size:=by omega
  obtain⟨a,hc0⟩:∃a,b.data.toList[c]? =N a:=⟨_,cT (by have:=u.out;omega)⟩;have p:=cells c a hc0;have C:=K hc0;clear hc0;have ab:=K cells;clear cells;have V:a.toNat<256:=a.toNat_lt;have n:=K (aaA a);have o:η (oH a=(decide ((48:Int)<=(a.toNat:Int))&&decide ((a.toNat:Int)<=57)||((a.toNat:Int)==45)||((a.toNat:Int)==58))):=by refine K ?_;unfold oH;rw[Bool.eq_iff_iff];simp[UInt8.le_iff_toNat_le,<-UInt8.toNat_inj];omega
  have M:(nM a||(!(true&&c==0)&&oH a))=false->iH b.data.toList=false:=λf=>by unfold iH;rw[aa4 _ c true a C.out f];rfl
  have good:(nM a||(!(true&&c==0)&&oH a))=true->∀d e,d<c+1->b.data.toList[d]? =N e->(nM e||(!(true&&d==0)&&oH e))=true:=λf d e ad g=>by
   obtain h1|h1:=fU d c
   .exact G.out d e h1 g
   obtain rfl:d=c:=by omega
   rw[C.out] at g;injection g with g;subst g;exact f
  have i:=K M;have m:=K good;clear M good;have yes:∀ {J:Prop},(nM a||(!(true&&c==0)&&oH a))=true->(η (∀d e,d<c+1->b.data.toList[d]? =N e->(nM e||(!(true&&d==0)&&oH e))=true)->J)->J:=λv f=>f (K (m.out v));by_cases k:97<=(a.toNat:Int)/\(a.toNat:Int)<=122
  .refine yes (by rw[n.out];simp;omega) λq=> ?_;obtain⟨L,T⟩:=k;clear yes m i n o;go_wp2;exact⟨⟨c+1,by go_num,by omega,(by first|trivial|rfl),q.out⟩,by simp[jE];omega⟩
  have P:nM a=false:=by rw[n.out];simp;omega
  have t:=K P;clear P;by_cases r:c=0
  .have j:=K (i.out (by rw[t.out,r];simp));clear yes m i;subst r;obtain L|L:=(by omega:(a.toNat:Int)<97\/122<(a.toNat:Int))
   .clear k;go_wp2;all_goals(go_ret;exact⟨lc (by rw[j.out]),h⟩)
   have T:decide ((a.toNat:Int)<=122)=false:=by simp;omega
   have ac:57<(a.toNat:Int):=by omega
   clear k;go_wp2;all_goals(go_ret;exact⟨lc (by rw[j.out]),h⟩)
  have af:((c:Int)==0)=false:=ahO (by omega);have F:η ((c==0)=false):=K (by simpa using r);clear r;have split:((48<=(a.toNat:Int)/\(a.toNat:Int)<=57)\/(a.toNat:Int)=45\/(a.toNat:Int)=58)\/((a.toNat:Int)<48/\(a.toNat:Int)≠45)\/(58<(a.toNat:Int)/\((a.toNat:Int)<97\/122<(a.toNat:Int))):=by omega
  obtain sp|sp:=split
  .refine yes (by rw[t.out,F.out,o.out];simp;omega) λq=> ?_;clear yes m i n o;have A:=K p;clear p;obtain⟨l,s⟩|l|l:=sp
   .have y:(a.toNat:Int)<97:=by omega
    clear k;have p:=A.out;go_wp2;exact⟨⟨c+1,by go_num,by omega,(by first|trivial|rfl),q.out⟩,by simp[jE];omega⟩
   all_goals
    have p:=A.out;rw[l] at p;clear k l V;go_wp2;exact⟨⟨c+1,by go_num,by omega,(by first|trivial|rfl),q.out⟩,by simp[jE];omega⟩
  have j:=K (i.out (by rw[t.out,F.out,o.out];simp;omega));clear yes m i n o;have n45:((a.toNat:Int)==45)=false:=ahO (by omega);have n58:((a.toNat:Int)==58)=false:=ahO (by omega);clear k;obtain⟨l,s⟩|⟨l,s|s⟩:=sp
  .have y:(a.toNat:Int)<97:=by omega
   clear s;go_wp2;all_goals(go_ret;exact⟨lc (by rw[j.out]),h⟩)
  .have y:decide ((a.toNat:Int)<=57)=false:=by simp;omega
   go_wp2;all_goals(go_ret;exact⟨lc (by rw[j.out]),h⟩)
  have y:decide ((a.toNat:Int)<=57)=false:=by simp;omega
  have ak:decide ((a.toNat:Int)<=122)=false:=by simp;omega
  go_wp2;all_goals(go_ret;exact⟨lc (by rw[j.out]),h⟩)
 obtain rfl:c=b.size:=by omega
 have W:¬(b.size:Int)<b.size:=by omega
 have S:η (sM true b.data.toList=true):=K (aa3 _ true λd e g=>G.out d e (by
  obtain f|f:=fU d b.size
  .exact f
  rw[J5 (by have:=u.out;omega)] at g;cases g) g)
 have B:η (iH b.data.toList=(!b.toList.isEmpty&&decide ((b.size:Int)<=16))):=K (by
  unfold iH;have w:decide (b.size<=16)=decide ((b.size:Int)<=16):=by rw[decide_eq_decide];omega
  rw[S.out,Lib.toList_data,<-u.out,w];rfl)
 cases O:b.toList.isEmpty
 .go_wp2;all_goals(go_ret;exact⟨lc (by rw[B.out,O];simp),h⟩)
 go_wp2;all_goals(go_ret;exact⟨lc (by rw[B.out,O];simp),h⟩)
end
section
open Go.Shelf
def afs:Go.Shelf.Ren:=⟨fun|10=>185|6=>86|a=>a,fun|22=>26|23=>9|25=>92|3=>3|4=>4|0=>0|a=>a,fun|a=>a⟩
theorem afr:Go.Proofs.SlLaysH.n10 δ afs:=by constructor<;>first|kernel_rfl|exact jg ⟨by decide+kernel,by kernel_rfl⟩|(intros;kernel_rfl)
def Ji:Go.Shelf.Ren:=⟨fun|10=>323|6=>367|a=>a,fun|22=>104|23=>3|25=>51|3=>3|4=>4|0=>0|a=>a,fun|a=>a⟩
theorem QV:Go.Proofs.SlLaysH.n10 δ Ji:=by constructor<;>first|kernel_rfl|exact jg ⟨by decide+kernel,by kernel_rfl⟩|(intros;kernel_rfl)
def Jj:Go.Shelf.Ren:=⟨fun|10=>298|6=>355|a=>a,fun|22=>153|23=>155|25=>156|3=>3|4=>4|0=>0|a=>a,fun|a=>a⟩
theorem QW:Go.Proofs.SlLaysH.n10 δ Jj:=by constructor<;>first|kernel_rfl|exact jg ⟨by decide+kernel,by kernel_rfl⟩|(intros;kernel_rfl)
def DL:Go.Shelf.Ren:=⟨fun|4=>390|a=>a,fun|22=>26|25=>9|3=>3|4=>4|9=>9|20=>20|0=>0|a=>a,fun|a=>a⟩
theorem afv:Go.Proofs.Lays8.n4 δ DL:=by constructor<;>first|kernel_rfl|exact jg ⟨by decide+kernel,by kernel_rfl⟩|(intros;kernel_rfl)
def DO:Go.Shelf.Ren:=⟨fun|4=>60|a=>a,fun|22=>33|25=>32|3=>3|4=>4|9=>9|20=>20|0=>0|a=>a,fun|a=>a⟩
theorem afw:Go.Proofs.Lays8.n4 δ DO:=by constructor<;>first|kernel_rfl|exact jg ⟨by decide+kernel,by kernel_rfl⟩|(intros;kernel_rfl)
end
section
open Go.Sort
theorem Oj{a:Type}[Inhabited a]{enc:a->ε}{w:Z}{g q:Nat}{d:Array a}:Y w (putRow enc (Sort.ahead w q) g 0 d) (λb=>N g=N b):=
 ⟨rfl,rfl,rfl,by simp[putRow,mapBlock,Sort.ahead],λf _ e=>by have:g≠f:=λc=>e (by rw[c]);simp[putRow,mapBlock,Sort.ahead,Jz,this]⟩
theorem Ed:∀a:Z,nW δ (zeroValue 9) a= .ok (H (D #[])) a:=λ_=>by kernel_rfl
def Ki(g:Z)(d:Nat)(v:ε)(c:List BA)(f:aI)(b:Z):Prop:=
 ∃a,f=ξ a/\b.ownsRow d 9 1 a c.length (c.map H)/\Y g b (λe=>v.ownBlock=N e)/\a.ownBlock=v.ownBlock
variable{w n G:Z}{x i t:ε}{y k d M:Nat}{j:Bs}{a:List ε}{b:Option ay}{f:Bool}{p L:BA}{q:Array ε}{u:aQ}{X:aI}
theorem Mv(c:List BA)(h:w.ownsRow y 9 1 x k (c.map H))(q:x≠V A 0 0)(a:BA->Bool)(d:Nat)(e:Array ε)(j:∀args w,(callFunc d args).run δ w= .ok (.enter d args) w)(s:PredAt δ d e H a w)(r:∀blk,x.ownBlock=N blk->PredOver δ d e H a blk 0 k w):ν δ 185 #[x,.func (.func d) #[] e] w (Ki w y x (c.filter λb=> !a b)):=by obtain⟨g,i,rfl,z,B,l,m,n,o⟩:=holds_of_ownsRow h q;subst n;have f:=AnyE.slices_DeleteFunc afr H (λ_=>rfl) a d e j kj Ed g 0 i c.toArray w s (by simpa using r g rfl) o (by simp;unfold Χ at m;omega) (by simpa using l);change ν δ 185 _ _ _ at f;simp only[List.size_toArray] at f;refine f.mono ?_;rintro u C ⟨rfl,t,rfl⟩;have p:=jo (λb=> !a b) c;refine⟨_,rfl,?_,Oj,rfl⟩;have:=ownsRow_putRow (q:=t) (ys:=(c.filter λb=> !a b)++qz (c.length-(c.filter λb=> !a b).length) kj) h (by simp;omega) p;rw[List.take_left' rfl] at this;exact this
theorem yG{w:Z}(t:Nat)(h o d:aQ)(a:TypeInfo)(s:ε)(g bytes:Nat)(z:prog.underlying h=N (.slice d))(u:prog.info? d=N a)(J:a.zero=N s)(P:a.size=g)(M:a.bytes=bytes)(R:s.cells.size=g)(Q:0<g)(v:ε)(c:Nat)(r:List ε)(m:w.ownsRow t d g v c r)(i:ay)(b j:Nat)(e:List ε)(l:e.length=b*g)(x:∀S B,e[S]? =N B->w.cell? (i.add S)=N B)(F:∀B∈e,B.oneCell'=true)(G:c+b<=Χ)(H:(c+b)*bytes<=140737488355328)(X:t<=w.heap.size):∃p q,(gJ #[h,h] o #[v,V (N i) b j]).run δ w= .ok p q/\q.ownsRow t d g p (c+b) (r++e)/\w.grownBy q v.ownBlock/\∀n,p.ownBlock=N n->v.ownBlock=N n\/w.heap.size<=n:=by
 obtain⟨p,q,y,T,W,_⟩:=run_append_own (P:=δ) (w:=w) t h o d a s g bytes z u J P M R Q v c r m i b j e l x F G H X;refine⟨p,q,y,T,W,λn I=> ?_⟩;subst P M;obtain⟨rfl,rfl⟩|⟨C,E,K,rfl,ae,ab,ag,af,Y,ai⟩:=m.2
 .have ac:r=[]:=AC (by simpa using m.1);subst ac;obtain⟨aj,ak,f,ad,_,_⟩:=run_append_own (P:=δ) (w:=w) w.heap.size h o d a s a.size a.bytes z u J rfl rfl R Q (V A 0 0) 0 [] (db w _ d a.size) i b j e l x F G H (Ο _);rw[y] at f;injection f with k L;subst k;exact .inr (ad.lt n I).1
 by_cases O:c+b<=E
 .have aa:c*a.size+e.length<=K.size:=by rw[l,Y,<-Nat.add_mul];exact Nat.mul_le_mul_right _ O
  have f:=run_append_room (P:=δ) w h o d a z u C c E K ab i b j e l x F O aa;rw[y] at f;injection f with k L;subst k;exact .inl I
 have ah:c+b<=9223372036854775807:=by simp only[Χ] at G;omega
 have f:=run_append_grow (P:=δ) w h o d a s z u J ⟨C,0,A⟩ c E r m.1 (m.cells (g:=C) rfl) i b j e l x (by omega) (by omega) (growslice_fits (by omega) H);rw[y] at f;injection f with k L;subst k;simp only[iM,xZ] at I;exact .inr (by omega)
theorem dy{d:Program}{f:Array Oper}{g:List Oper}{a:Oper}{b:Act}{e:Exit->Act->Z->Prop}(m:a.guard=A)(h j:Operand)(c:aQ)(o:a.op= .call {callee:= .builtin .append,args:=#[h,j],argTypes:=#[c,c]})(q:b.eval h=x)(r:b.eval j=i)(p:(gJ #[c,c] a.type #[x,i]).run d w= .ok t n)(k:wpList d f e g (b.put a.dst t) n):wpList d f e (a::g) b w:=
 wpList_plain m λ_ l=>by unfold Oper.wp execOp;simp only[o,resolve,invoke,builtin,Sem.run_bind,JY,Result.andThen_ok,List.map_toArray,lm,nX,q,r,p];exact l _ _ k
theorem Dx{e:Program}{f:Array Oper}{a:Oper}{b:Act}{d:Act->Z->Prop}{k:Exit->Act->Z->Prop}{j:Prop}(m:a.guard=A)(g h:Operand)(c:aQ)(o:a.op= .call {callee:= .builtin .append,args:=#[g,h],argTypes:=#[c,c]})(q:b.eval g=x)(s:b.eval h=i)(p:(gJ #[c,c] a.type #[x,i]).run e w= .ok t n)(l:d (b.put a.dst t) n):if Ay a (yielded f b.tmps)=true then Oper.wp e a b w d k else j:=by
 have r:Ay a (yielded f b.tmps)=true:=by simp[Ay,m]
 rw[ahM r];unfold Oper.wp execOp;simp only[o,resolve,invoke,builtin,Sem.run_bind,JY,Result.andThen_ok,List.map_toArray,lm,nX,q,s,p];exact l
theorem nA{w:Z}(m:Nat)(f b:aQ)(K:prog.underlying f=N (.slice b))(C:(prog.info? b).map (λh=>(h.zero,h.size,h.bytes))=N (N x,y,k))(L:x.cells.size=y)(J:0<y)(H:w.ownsRow m b y i d a)(e:List ε)(G:e.length=y)(r:∀o∈e,o.oneCell'=true)(z:d+1<=Χ)(B:(d+1)*k<=140737488355328)(R:m<=w.heap.size):∃j l,(gJ #[f,f] f #[i,V (N (U w.heap.size 0 A)) 1 1]).run δ (w.alloc (ζ e.toArray b))= .ok j l/\l.ownsRow m b y j (d+1) (a++e)/\Y w l (λc=>i.ownBlock=N c)/\∀c,j.ownBlock=N c->i.ownBlock=N c\/w.heap.size<=c:=by
 obtain⟨h,M,O,P,Q⟩:=info_parts C
 obtain⟨j,l,I,s,t,u⟩:=yG (w:=w.alloc (ζ e.toArray b)) m f f b h x y k K M O P Q L J i d a (H.alloc _) ⟨w.heap.size,0,A⟩ 1 1 e (by simpa using G) (λn o E=>by
  have p:((⟨w.heap.size,0,A⟩:ay).add n)=⟨w.heap.size,n,A⟩:=by unfold jm;by_cases q:n=0<;>simp[q]
  rw[p,(θ.new w b e.toArray).cell];simpa using E) r z B (by simp;omega)
 refine⟨j,l,I,s,((Y.refl w _).alloc _).trans (Y.jy t (F:=λc=>i.ownBlock=N c) λ_ b=>b) (λ_ g=> .inl g),λc F=> ?_⟩;obtain g|g:=u c F
 .exact .inl g
 simp at g;exact .inr (by omega)
theorem nB(c:Nat)(i:w.ownsRow c 9 1 x y a)(d:BA)(j:y<=1000000000000)(h:c<=w.heap.size):∃e f,(gJ #[26,26] 26 #[x,V (N (U w.heap.size 0 A)) 1 1]).run δ (w.alloc (ζ #[H d] 9))= .ok e f/\f.ownsRow c 9 1 e (y+1) (a++[H d])/\Y w f (λb=>x.ownBlock=N b)/\∀b,e.ownBlock=N b->x.ownBlock=N b\/w.heap.size<=b:=
 nA c 26 9 zV zU rfl (by decide) i [H d] rfl (λk g=>by simp at g;subst g;rfl) (by unfold Χ;omega) (by omega) h
theorem eX(d:w.ownsRow y u 1 x k a):∃b c,x=V b k c:=by
 obtain⟨rfl,rfl⟩|⟨e,f,g,rfl,_⟩:=d.2
 .exact⟨A,0,rfl⟩
 exact⟨_,_,rfl⟩
theorem ie(b:w.ownsRow y u k x d a)(c:x.ownBlock=N M):M<w.heap.size:=(b.lt M c).2
theorem pY{w':Z}(c:w.ownsRow y u k x d a)(e:∀b,x.ownBlock=N b->w'.heap[b]? =w.heap[b]?):w'.ownsRow y u k x d a:=by
 refine⟨c.1,?_⟩;obtain hn|⟨b,cap,cur,e1,hbg,hgg,rest⟩:=c.2
 .exact .inl hn
 exact .inr ⟨b,cap,cur,e1,hbg,(e b (by rw[e1];rfl)).trans hgg,rest⟩
theorem wU{B':Nat}(c:w.ownsRow y u k x d a)(e:B'<=y):w.ownsRow B' u k x d a:=by
 refine⟨c.1,?_⟩;obtain hn|⟨b,cap,cur,e1,hbg,rest⟩:=c.2
 .exact .inl hn
 exact .inr ⟨b,cap,cur,e1,aJ e hbg,rest⟩
end
theorem sZ:prog.underlying 5=N (.int bh):=by kernel_rfl
theorem Y.yV{a b e:Z}{F:Bs}(c:Y b e F)(f:b.os=a.os)(g:b.tape=a.tape)(h:b.output=a.output)(d:b.heap=a.heap):Y a e F:=
 ⟨c.os.trans f,c.tape.trans g,c.output.trans h,d▸c.size,λk j i=>(c.block k (d▸j) i).trans (by rw[d])⟩
structure PS where
 op:Bool
 br:Bool
 left:Int
 out:BA
def cN(st:Nat->PS)(b:Nat)(c:PS):Nat->PS:=λa=>if a=b then c else st a
theorem lK(st:Nat->PS)(a:Nat)(b:PS):cN st a b a=b:=by simp[cN]
theorem D3(st:Nat->PS)(a:Nat)(d b:PS):cN (cN st a d) a b=cN st a b:=by funext j;unfold cN;by_cases c:j=a<;>simp[c]
theorem xB(st:Nat->PS)(b:Nat)(d:PS)(a:Nat)(c:a≠b):cN st b d a=st a:=by simp[cN,c]
section
variable {w w':Z} {g:Nat} {t:aQ} {cs:Array ε}
end
theorem Ii{c w:Z}{g:Nat}(a:c.grownBy w (N g)){b:ay}(i:b.block=g)(f:ε):c.grownBy (w.setCell b f) (N g):=
 ⟨a.os,a.tape,a.output,by simpa[eH] using a.size,λe h d=>(JX w b f e (by rintro rfl;exact d (by rw[i]))).trans (a.block e h d)⟩
theorem sO{a w:Z}{g:Nat}(c:a.grownBy w (N g))(d:Nat)(b:ε):a.grownBy (w.setCell (U g d A) b) (N g):=Ii c rfl b
structure cd (w:Z) (g:Nat) (t:aQ) (st:Nat->PS) (vs:Nat->ε):Prop where
 ex:∃cs,θ w g t cs/\∀i,i<16->cs[i*4]? =N (ι (st i).op)/\cs[i*4+1]? =N (ι (st i).br)/\cs[i*4+2]? =N (I E (st i).left)/\cs[i*4+3]? =N (vs i)
section
variable {w w':Z} {g:Nat} {t:aQ} {st:Nat->PS} {vs:Nat->ε}
theorem cd.lt(a:cd w g t st vs):g<w.heap.size:=by obtain⟨cs,b,_⟩:=a.ex;exact b.lt
theorem cd.c0(b:cd w g t st vs){a:Nat}(e:a<16):w.cell? ⟨g,a*4,A⟩=N (ι (st a).op):=by obtain⟨cs,c,d⟩:=b.ex;rw[c.cell];exact(d a e).1
theorem cd.c1(b:cd w g t st vs){a:Nat}(e:a<16):w.cell? ⟨g,a*4+1,A⟩=N (ι (st a).br):=by obtain⟨cs,c,d⟩:=b.ex;rw[c.cell];exact(d a e).2.1
theorem cd.c2(b:cd w g t st vs){a:Nat}(e:a<16):w.cell? ⟨g,a*4+2,A⟩=N (I E (st a).left):=by obtain⟨cs,c,d⟩:=b.ex;rw[c.cell];exact(d a e).2.2.1
theorem cd.c3(b:cd w g t st vs){a:Nat}(e:a<16):w.cell? ⟨g,a*4+3,A⟩=N (vs a):=by obtain⟨cs,c,d⟩:=b.ex;rw[c.cell];exact(d a e).2.2.2
theorem cd.frozen(b:cd w g t st vs)(a:Nat):w.frozen? (U g a A)=false:=by obtain⟨cs,c,_⟩:=b.ex;exact c.frozen a
theorem cd.alloc(b:cd w g t st vs)(a:Obj):cd (w.alloc a) g t st vs:=by obtain⟨cs,c,d⟩:=b.ex;exact⟨cs,c.alloc a,d⟩
theorem cd.far(b:cd w g t st vs){p:ay}(e:g≠p.block)(a:ε):cd (w.setCell p a) g t st vs:=by obtain⟨cs,c,d⟩:=b.ex;exact⟨cs,c.far e a,d⟩
theorem cd.drew(a:cd w g t st vs):cd w.drew g t st vs:=by obtain⟨cs,b,c⟩:=a.ex;exact⟨cs,b.drew,c⟩
theorem cd.same(a:cd w g t st vs)(d:w'.heap[g]? =w.heap[g]?):cd w' g t st vs:=by obtain⟨cs,b,c⟩:=a.ex;exact⟨cs,d.trans b,c⟩
theorem CY{cs:Array ε}{a:Nat}{v:ε}(b:cs[a]? =N v):a<cs.size:=(Array.getElem?_eq_some_iff.1 b).1
theorem cd.set0(k:cd w g t st vs){a:Nat}(m:a<16)(e:Bool):cd (w.setCell ⟨g,a*4,A⟩ (ι e)) g t (cN st a {st a with op:=e}) vs:=by
 obtain⟨cs,l,h⟩:=k.ex;refine⟨_,l.χ _ _,λi n=> ?_⟩;obtain⟨j,b,c,d⟩:=h i n;have:=CY (h a m).1;unfold cN;by_cases f:i=a
 .subst f;simp[b,c,d,this]
 simp only[Ai,WB f];rw[WB (by omega),WB (by omega),WB (by omega),WB (by omega)];exact⟨j,b,c,d⟩
theorem cd.set1(k:cd w g t st vs){a:Nat}(m:a<16)(e:Bool):cd (w.setCell ⟨g,a*4+1,A⟩ (ι e)) g t (cN st a {st a with br:=e}) vs:=by
 obtain⟨cs,l,h⟩:=k.ex;refine⟨_,l.χ _ _,λi n=> ?_⟩;obtain⟨b,j,c,d⟩:=h i n;have:=CY (h a m).2.1;unfold cN;by_cases f:i=a
 .subst f;simp[b,c,d,this]
 simp only[Ai,WB f];rw[WB (by omega),WB (by omega),WB (by omega),WB (by omega)];exact⟨b,j,c,d⟩
theorem cd.set2(k:cd w g t st vs){a:Nat}(m:a<16)(e:Int):cd (w.setCell ⟨g,a*4+2,A⟩ (I E e)) g t (cN st a {st a with left:=e}) vs:=by
 obtain⟨cs,l,h⟩:=k.ex;refine⟨_,l.χ _ _,λi n=> ?_⟩;obtain⟨b,c,j,d⟩:=h i n;have:=CY (h a m).2.2.1;unfold cN;by_cases f:i=a
 .subst f;simp[b,c,d,this]
 simp only[Ai,WB f];rw[WB (by omega),WB (by omega),WB (by omega),WB (by omega)];exact⟨b,c,j,d⟩
theorem cd.Qj(j:cd w g t st vs){a:Nat}(l:a<16)(v:ε)(n:BA):cd (w.setCell ⟨g,a*4+3,A⟩ v) g t (cN st a {st a with out:=n}) (λb=>if b=a then v else vs b):=by
 obtain⟨cs,k,h⟩:=j.ex;refine⟨_,k.χ _ _,λb m=> ?_⟩;obtain⟨c,d,e,i⟩:=h b m;have:=CY (h a l).2.2.2;unfold cN;by_cases f:b=a
 .subst f;simp[c,d,e,this]
 simp only[Ai,WB f];rw[WB (by omega),WB (by omega),WB (by omega),WB (by omega)];exact⟨c,d,e,i⟩
end
theorem sj(g a:Nat)(e:a<16)(w:Z):ν δ 59 #[π (N (U g 0 A)),I E a] w λb w'=>b=ξ (π (N ⟨g,a*4,A⟩))/\w=w':=by
 have c:¬(a:Int)<0:=by omega
 have d:¬(16:Int)<=a:=by omega
 go_enter func59,ntmps59;go_wp2;all_goals(go_ret;exact⟨rfl,rfl⟩)
theorem yX(g:Nat)(a:Int)(b:a<0\/16<=a)(w:Z):ν δ 59 #[π (N (U g 0 A)),I E a] w λc w'=>c=ξ (π A)/\w=w':=by
 obtain b|b:=b
 .go_enter func59,ntmps59;go_wp2;all_goals(go_ret;exact⟨rfl,rfl⟩)
 have d:¬a<0:=by omega
 go_enter func59,ntmps59;go_wp2;all_goals(go_ret;exact⟨rfl,rfl⟩)
theorem RF{w:Z}{g:Nat}{t:aQ}{st:Nat->PS}{vs:Nat->ε}(c:cd w g t st vs)(a:Nat)(d:a<16):ν δ 182 #[π (N ⟨g,a*4,A⟩)] w λh w'=>h=ξ (ι ((st a).op&& !(st a).br))/\w=w':=by
 have f:=c.c0 d;have i:=c.c1 d;cases e:(st a).op with
 |false=>rw[e] at f;go_enter func182,ntmps182;go_wp2;all_goals(go_ret;exact⟨rfl,rfl⟩)
 |true=>rw[e] at f;generalize(st a).br=b at i;go_enter func182,ntmps182;go_wp2;all_goals(go_ret;exact⟨rfl,rfl⟩)
section
variable {w:Z} {g:Nat} {t:aQ} {st:Nat->PS} {vs:Nat->ε}
theorem CW(hF:cd w g t st vs)(a:Nat)(c:a<16)(d:((st a).op&& !(st a).br)=true):ν δ 107 #[π (N (U g 0 A)),I E a] w λb w'=>b=ξ (σ #[π (N ⟨g,a*4,A⟩),I E 0])/\w=w':=by go_enter func107,ntmps107;go_wp2_with fail;refine(sj g a c _).mono ?_;rintro b e ⟨rfl,rfl⟩;go_wp2_with fail;refine(RF hF a c).mono ?_;rintro b e ⟨rfl,rfl⟩;rw[d];go_wp2;all_goals exact Ω (v:=σ #[_,_]) (by simp[ag,results107,go_sem]) rfl ⟨rfl,rfl⟩
theorem OX(hF:cd w g t st vs)(a:Nat)(c:a<16)(d:((st a).op&& !(st a).br)=false):ν δ 107 #[π (N (U g 0 A)),I E a] w λb w'=>b=ξ (σ #[π A,I E 12])/\w=w':=by go_enter func107,ntmps107;go_wp2_with fail;refine(sj g a c _).mono ?_;rintro b e ⟨rfl,rfl⟩;go_wp2_with fail;refine(RF hF a c).mono ?_;rintro b e ⟨rfl,rfl⟩;rw[d];go_wp2;all_goals exact Ω (v:=σ #[_,_]) (by simp[ag,results107,go_sem]) rfl ⟨rfl,rfl⟩
end
theorem O'(g:Nat)(a:Int)(c:a<0\/16<=a)(w:Z):ν δ 107 #[π (N (U g 0 A)),I E a] w λb w'=>b=ξ (σ #[π A,I E 1])/\w=w':=by go_enter func107,ntmps107;go_wp2_with fail;refine(yX g a c _).mono ?_;rintro b d ⟨rfl,rfl⟩;go_wp2;all_goals exact Ω (v:=σ #[_,_]) (by simp[ag,results107,go_sem]) rfl ⟨rfl,rfl⟩
section
variable {w:Z} {g:Nat} {t:aQ} {st:Nat->PS} {vs:Nat->ε}
theorem Tv(hF:cd w g t st vs)(a:Nat)(c:a<16):ν δ 43 #[π (N (U g 0 A)),I E a] w λb w'=>b=ξ (ι (st a).op)/\w=w':=by have e:=hF.c0 c;go_enter func43,ntmps43;go_wp2_with fail;refine(sj g a c _).mono ?_;rintro b d ⟨rfl,rfl⟩;go_wp2;all_goals(go_ret;exact⟨rfl,rfl⟩)
theorem Tw(g:Nat)(a:Int)(c:a<0\/16<=a)(w:Z):ν δ 43 #[π (N (U g 0 A)),I E a] w λb w'=>b=ξ (ι false)/\w=w':=by go_enter func43,ntmps43;go_wp2_with fail;refine(yX g a c _).mono ?_;rintro b d ⟨rfl,rfl⟩;go_wp2;all_goals(go_ret;exact⟨rfl,rfl⟩)
theorem Sz(g:Nat)(a d:Int)(c:a<0\/16<=a)(w:Z):ν δ 69 #[π (N (U g 0 A)),I E a,I E d] w λb w'=>b=ξ (I E 1)/\w=w':=by go_enter func69,ntmps69;go_wp2_with fail;refine(O' g a c _).mono ?_;rintro b e ⟨rfl,rfl⟩;go_wp2;all_goals(go_ret;exact⟨rfl,rfl⟩)
theorem Sw(hF:cd w g t st vs)(a:Nat)(c:a<16)(e:Int)(d:((st a).op&& !(st a).br)=false):ν δ 69 #[π (N (U g 0 A)),I E a,I E e] w λb w'=>b=ξ (I E 12)/\w=w':=by go_enter func69,ntmps69;go_wp2_with fail;refine(OX hF a c d).mono ?_;rintro b f ⟨rfl,rfl⟩;go_wp2;all_goals(go_ret;exact⟨rfl,rfl⟩)
theorem Sy(hF:cd w g t st vs)(a:Nat)(b:a<16)(c:Int)(e:((st a).op&& !(st a).br)=true):ν δ 69 #[π (N (U g 0 A)),I E a,I E c] w λd w'=>d=ξ (I E 0)/\cd w' g t (cN st a {st a with left:=max c (-1)}) vs/\w.grownBy w' (N g):=by
 have i:=hF.c2 b;have f:=hF.frozen (a*4+2);go_enter func69,ntmps69;go_wp2_with fail;refine(CW hF a b e).mono ?_;rintro d h ⟨rfl,rfl⟩;go_wp2
 all_goals
  go_ret;refine⟨rfl,?_,Ii (tK w _) rfl _⟩;first
  |exact hF.set2 b _
  |(rw[show max c (-1)= -1 by omega];exact hF.set2 b _)
  |(rw[show max c (-1)=c by omega];exact hF.set2 b _)
theorem Ta(g:Nat)(a:Int)(c:a<0\/16<=a)(w:Z):ν δ 179 #[π (N (U g 0 A)),I E a] w λb w'=>b=ξ (I E 1)/\w=w':=by go_enter func179,ntmps179;go_wp2_with fail;refine(yX g a c _).mono ?_;rintro b d ⟨rfl,rfl⟩;go_wp2;all_goals(go_ret;exact⟨rfl,rfl⟩)
theorem SX(hF:cd w g t st vs)(a:Nat)(c:a<16)(d:(st a).op=false):ν δ 179 #[π (N (U g 0 A)),I E a] w λb w'=>b=ξ (I E 12)/\w=w':=by have e:=hF.c0 c;rw[d] at e;go_enter func179,ntmps179;go_wp2_with fail;refine(sj g a c _).mono ?_;rintro b f ⟨rfl,rfl⟩;go_wp2;all_goals(go_ret;exact⟨rfl,rfl⟩)
theorem S8(hF:cd w g t st vs)(a:Nat)(b:a<16)(d:(st a).op=true):ν δ 179 #[π (N (U g 0 A)),I E a] w λc w'=>c=ξ (I E 0)/\cd w' g t (cN st a {st a with op:=false}) vs/\w.grownBy w' (N g):=by have e:=hF.c0 b;rw[d] at e;have f:=hF.frozen (a*4);go_enter func179,ntmps179;go_wp2_with fail;refine(sj g a b _).mono ?_;rintro c h ⟨rfl,rfl⟩;go_wp2;all_goals(go_ret;exact⟨rfl,hF.set0 b false,Ii (tK w _) rfl _⟩)
theorem TU(g:Nat)(a:Int)(c:a<0\/16<=a)(w:Z):ν δ 27 #[π (N (U g 0 A)),I E a] w λb w'=>b=ξ (I E 1)/\w=w':=by go_enter func27,ntmps27;go_wp2_with fail;refine(yX g a c _).mono ?_;rintro b d ⟨rfl,rfl⟩;go_wp2;all_goals(go_ret;exact⟨rfl,rfl⟩)
theorem TW(hF:cd w g t st vs)(a:Nat)(c:a<16)(d:(st a).op=true):ν δ 27 #[π (N (U g 0 A)),I E a] w λb w'=>b=ξ (I E 8)/\w=w':=by have e:=hF.c0 c;rw[d] at e;go_enter func27,ntmps27;go_wp2_with fail;refine(sj g a c _).mono ?_;rintro b f ⟨rfl,rfl⟩;go_wp2;all_goals(go_ret;exact⟨rfl,rfl⟩)
theorem TS(hF:cd w g t st vs)(a:Nat)(b:a<16)(f:(st a).op=false):ν δ 27 #[π (N (U g 0 A)),I E a] w λc w'=>c=ξ (I E 0)/\cd w' g t (cN st a ⟨true,false, -1,kj⟩) (λd=>if d=a then V A 0 0 else vs d)/\w.grownBy w' (N g):=by
 have h:=hF.c0 b;rw[f] at h;have n:=hF.c1 b;have o:=hF.c2 b;have p:=hF.c3 b;have i:=hF.frozen (a*4);have j:=hF.frozen (a*4+1);have k:=hF.frozen (a*4+2);have l:=hF.frozen (a*4+3);go_enter func27,ntmps27;go_wp2_with fail;refine(sj g a b _).mono ?_;rintro c m ⟨rfl,rfl⟩;go_wp2;all_goals(go_ret;refine⟨rfl,?_,sO (sO (sO (sO (tK w (N g)) _ _) _ _) _ _) _ _⟩)
 all_goals
  have e:=(((hF.set0 b true).set1 b false).set2 b (-1)).Qj b (V A 0 0) kj;simp only[lK,D3] at e;exact e
end
theorem Hf:(prog.info? 5).map (λa=>(a.zero,a.size,a.bytes))=N (N (I bh 0),1,1):=by kernel_rfl
theorem Yx(a:List UInt8):∀b:BA,(a.map λc=>(c.toNat:Int)).foldl (λf e=>f.push (lQ e.toNat)) b=⟨b.data++a.toArray⟩:=by
 induction a with
 |nil=>intro b;simp
 |cons g a d=>intro b;simp only[lm,List.foldl_cons];rw[d];simp[ByteArray.push]
theorem Mn{w:Z}{d:Nat}{v:ε}{s:BA}(a:w.ownsRow d 5 1 v s.size (strCells s)):(convert 113 9 v).run δ w= .ok (H s) w:=by
 obtain⟨rfl,i⟩|⟨g,e,j,rfl,k,l,_,_,_,m⟩:=a.2
 .rw[run_convert_bytes_string w 113 9 5 A 0 0 iZ sZ lj];have:s=kj:=by obtain⟨f⟩:=s;have:f=#[]:=Array.size_eq_zero_iff.1 i;rw[this];rfl
  rw[this];simp[Conv.bytesToString,JY];first|rfl|skip
 rw[run_convert_bytes_string w 113 9 5 _ _ _ iZ sZ lj];have h:=a.cells (g:=g) rfl;have b:=run_loadCells_list (P:=δ) w ⟨g,0,A⟩ (strCells s) h;rw[strCells_length] at b;rw[run_bytesToString w ⟨g,0,A⟩ s.size e (s.data.toList.map λc=>(c.toNat:Int)) (by rw[b];simp[strCells])];rw[Yx]
 congr 2
 simp
theorem U5{P:Program}{w:Z}(m:Nat)(t f j b:aQ)(e:TypeInfo)(q:P.underlying t=N (.slice b))(r:P.underlying f=N .string)(n:P.info? b=N e)(B:e.zero=N (I bh 0))(p:e.size=1)(y:e.bytes=1)(v:ε)(c:Nat)(l:List ε)(h:w.ownsRow m b 1 v c l)(a:BA)(x:c+a.size<=Χ)(E:c+a.size<=140737488355328)(L:m<=w.heap.size):∃k w',(gJ #[t,f] j #[v,H a]).run P w= .ok k w'/\w'.ownsRow m b 1 k (c+a.size) (l++strCells a)/\w.grownBy w' v.ownBlock/\∀i,k.ownBlock=N i->v.ownBlock=N i\/w.heap.size<=i:=by
 obtain⟨k,w',o,G,J,_⟩:=run_append_own_string (P:=P) w m t f j b e q r n B p y v c l h a x E L;refine⟨k,w',o,G,J,λi z=> ?_⟩;have K:((c+a.size:Nat):Int)<=9223372036854775807:=by simp only[Χ] at x;omega
 obtain⟨rfl,rfl⟩|⟨s,u,F,rfl,S,M,X,T,W,Y⟩:=h.2
 .have Q:l=[]:=AC (by simpa using h.1);subst Q;obtain⟨aa,ab,d,R,_,_⟩:=run_append_own_string (P:=P) w w.heap.size t f j b e q r n B p y (V A 0 0) 0 [] (db w _ b 1) a x E (Ο _);rw[o] at d;injection d with g C;subst g;exact .inr (R.lt i z).1
 by_cases O:c+a.size<=u
 .have d:=run_append_room_string (P:=P) w t f j b e q r n p s c u F M a O (by omega);rw[o] at d;injection d with g C;subst g;exact .inl z
 have d:=run_append_grow_string (P:=P) w t f j b e (I bh 0) q r n B ⟨s,0,A⟩ c u l (by rw[p];exact h.1) (h.cells (g:=s) rfl) a (by omega) K (by rw[y];exact growslice_fits (by omega) (by omega));rw[o] at d;injection d with g C;subst g;simp only[iM,xZ] at z;exact .inr (by omega)
theorem IW{d:Program}{n:Array Oper}{a:Oper}{b:Act}{w:Z}{m:Act->Z->Prop}{r:Exit->Act->Z->Prop}{q:Prop}(F:a.guard=A)(o p:Operand)(t k:aQ)(J:a.op=Op.call {callee:=Callee.builtin Builtin.append,args:=#[o,p],argTypes:=#[t,k]})(i:Nat)(e:aQ)(f:TypeInfo)(P:d.underlying t=N (.slice e))(Q:d.underlying k=N .string)(G:d.info? e=N f)(T:f.zero=N (I bh 0))(O:f.size=1)(C:f.bytes=1)(v:ε)(g:Nat)(l:List ε)(M:b.eval o=v)(K:w.ownsRow i e 1 v g l)(c:BA)(S:b.eval p=H c)(y:g+c.size<=Χ)(E:g+c.size<=140737488355328)(B:i<=w.heap.size)(z:∀h w',w'.ownsRow i e 1 h (g+c.size) (l++strCells c)->w.grownBy w' v.ownBlock->(∀j,h.ownBlock=N j->v.ownBlock=N j\/w.heap.size<=j)->m (b.put a.dst h) w'):if Ay a (yielded n b.tmps)=true then Oper.wp d a b w m r else q:=by
 have R:Ay a (yielded n b.tmps)=true:=by simp[Ay,F]
 rw[ahM R];obtain⟨h,w',L,s,u,x⟩:=U5 (P:=d) (w:=w) i t k a.type e f P Q G T O C v g l K c y E B;unfold Oper.wp;simp[execOp,J,resolve,invoke,builtin,M,S,L,Az];exact z h w' s u x
theorem aec(a b:BA):strCells (a++b)=strCells a++strCells b:=by simp[strCells]
theorem adH(a b:BA):(a++b).size=a.size+b.size:=by simp
def qW:Nat:=70368744177664
structure fu (w:Z) (g:Nat) (st:Nat->PS) (F:Nat->Prop):Prop where
 ex:∃vs,cd w g 118 st vs/\∀i,i<16->w.ownsRow 0 5 1 (vs i) (st i).out.size (strCells (st i).out)/\∀k,(vs i).ownBlock=N k->F k/\k≠g/\∀j,j<16->j≠i->(vs j).ownBlock≠N k
 ca:F g
 lt:∀k,F k->k<w.heap.size
 left:∀i,i<16-> -1<=(st i).left/\(st i).left<=9223372036854775807
theorem fu.keeps{w w':Z}{g:Nat}{st:Nat->PS}{F G:Nat->Prop}(c:fu w g st F)(l:Y w w' G)(o:∀a,F a->¬G a):fu w' g st F:=by
 obtain⟨vs,n,j⟩:=c.ex;have h:∀a,F a->w'.heap[a]? =w.heap[a]? :=λa d=>l.block a (c.lt a d) (o a d);refine⟨⟨vs,n.same (h g c.ca),λk i=>⟨?_,(j k i).2⟩⟩,c.ca,λa d=>dQ (c.lt a d) l.size,c.left⟩;obtain⟨f,m⟩:=j k i;refine⟨f.1,?_⟩;obtain hn|⟨b,cap,cur,e,hbg,hgg,rest⟩:=f.2
 .exact .inl hn
 exact .inr ⟨b,cap,cur,e,hbg,(h b (m b (by rw[e];rfl)).1).trans hgg,rest⟩
section
variable {w:Z} {g:Nat} {st:Nat->PS} {F:Nat->Prop}
theorem T7(d:fu w g st F)(a:Nat)(b:a<16):ν δ 42 #[π (N (U g 0 A)),I E a] w λc w'=>c=ξ (H (st a).out)/\w=w':=by obtain⟨vs,hF,e⟩:=d.ex;have i:=hF.c3 b;have f:=Mn (e a b).1;go_enter func42,ntmps42;go_wp2_with fail;refine(sj g a b _).mono ?_;rintro c h ⟨rfl,rfl⟩;go_wp2;all_goals(go_ret;exact⟨rfl,rfl⟩)
theorem T9(g:Nat)(a:Int)(c:a<0\/16<=a)(w:Z):ν δ 42 #[π (N (U g 0 A)),I E a] w λb w'=>b=ξ (H (D #[]))/\w=w':=by go_enter func42,ntmps42;go_wp2_with fail;refine(yX g a c _).mono ?_;rintro b d ⟨rfl,rfl⟩;go_wp2;all_goals(go_ret;exact⟨rfl,rfl⟩)
end
def tz(a:PS)(b:BA):Int×PS:=
 if(a.op&& !a.br)=true then
  if a.left= -1 then(0,{a with out:=a.out++b})
  else if(b.size:Int)<=a.left then(0,{a with left:=a.left-b.size,out:=a.out++b})
  else(12,{a with br:=true,left:=0,out:=a.out++b.extract 0 a.left.toNat})
 else(12,a)
section
variable {w:Z} {g:Nat} {st:Nat->PS} {F:Nat->Prop}
theorem Gl{l j:Z}{vs:Nat->ε}(hF:cd l g 118 st vs)(n:∀c,c<16->l.ownsRow 0 5 1 (vs c) (st c).out.size (strCells (st c).out)/\∀a,(vs c).ownBlock=N a->F a/\a≠g/\∀f,f<16->f≠c->(vs f).ownBlock≠N a)(K:F g)(lt:∀a,F a->a<l.heap.size)(left:∀c,c<16-> -1<=(st c).left/\(st c).left<=9223372036854775807)(c:Nat)(q:c<16)(i:ε)(w:BA)(z:j.ownsRow 0 5 1 i ((st c).out.size+w.size) (strCells (st c).out++strCells w))(k:l.grownBy j (vs c).ownBlock)(t:∀a,i.ownBlock=N a->(vs c).ownBlock=N a\/l.heap.size<=a):∃C,fu (j.setCell ⟨g,c*4+3,A⟩ i) g (cN st c {st c with out:=(st c).out++w}) C/\Y l (j.setCell ⟨g,c*4+3,A⟩ i) F/\(∀a,C a->F a\/l.heap.size<=a):=by
 have I:(N g:Option Nat)≠(vs c).ownBlock:=λe=>((n c q).2 g e.symm).2.1 rfl;have L:cd j g 118 st vs:=hF.same (k.block g hF.lt I)
 have H:∀a,i.ownBlock=N a->a≠g:=by
  intro a d e;subst e;obtain h|h:=t a d
  .exact I h.symm
  have:=hF.lt;omega
 have B:∀a,a≠g->(j.setCell ⟨g,c*4+3,A⟩ i).heap[a]? =j.heap[a]? :=λa d=>JX j _ i a d;have J:(j.setCell ⟨g,c*4+3,A⟩ i).heap.size=j.heap.size:=by simp[eH]
 refine⟨λa=>F a\/i.ownBlock=N a,⟨⟨_,L.Qj q i ((st c).out++w),λf o=> ?_⟩,.inl K,?_,?_⟩,⟨k.os,k.tape,k.output,by rw[J];exact k.size,?_⟩,?_⟩
 .by_cases e:f=c
  .subst e;simp only[ahM,lK,adH,aec];refine⟨⟨z.1,?_⟩,λa d=>⟨.inr d,H a d,λp r s=> ?_⟩⟩
   .obtain hn|⟨b,cap,cur,e,hbg,hgg,rest⟩:=z.2
    .exact .inl hn
    exact .inr ⟨b,cap,cur,e,hbg,(B b (H b (by rw[e];rfl))).trans hgg,rest⟩
   rw[WB s];intro u;obtain h|h:=t a d
   .exact((n f o).2 a h).2.2 p r s u
   have:=lt a ((n p r).2 a u).1;omega
  simp only[WB e,xB _ _ _ _ e];obtain⟨h,m⟩:=n f o;refine⟨?_,λa d=>⟨.inl (m a d).1,(m a d).2.1,λp r s=> ?_⟩⟩
  .refine⟨h.1,?_⟩;obtain hn|⟨b,cap,cur,e',hbg,hgg,rest⟩:=h.2
   .exact .inl hn
   have y:(vs f).ownBlock=N b:=by rw[e'];rfl
   refine .inr ⟨b,cap,cur,e',hbg,((B b (m b y).2.1).trans (k.block b (lt b (m b y).1) ?_)).trans hgg,rest⟩;exact λx=>(m b y).2.2 c q (λx=>e x.symm) x.symm
  by_cases E:p=c
  .subst E;rw[ahM rfl];intro u;obtain h3|h3:=t a u
   .exact((n f o).2 a d).2.2 p r s h3
   have:=lt a (m a d).1;omega
  rw[WB E];exact(m a d).2.2 p r s
 .intro a d;rw[J];obtain d|d:=d
  .exact dQ (lt a d) k.size
  exact(z.lt a d).2
 .intro f o;by_cases e:f=c
  .subst e;rw[lK];exact left f o
  rw[xB _ _ _ _ e];exact left f o
 .intro a d G;have M:a≠g:=λe=>G (e▸K);exact(B a M).trans (k.block a d (λe=>G ((n c q).2 a e.symm).1))
 intro a d;obtain d|d:=d
 .exact .inl d
 obtain h|h:=t a d
 .exact .inl ((n c q).2 a h).1
 exact .inr h
theorem IP{w:Z}{b:Nat}{d:aQ}{i:Nat}{v:ε}{h:Nat}{j:List ε}(e:w.ownsRow b d i v h j):∃a f c,v=V a f c:=by
 obtain⟨rfl,_⟩|⟨g,k,_,rfl,_⟩:=e.2
 .exact⟨_,_,_,rfl⟩
 exact⟨_,_,_,rfl⟩
theorem UE(g:Nat)(a:Int)(d:BA)(c:a<0\/16<=a)(w:Z):ν δ 103 #[π (N (U g 0 A)),I E a,H d] w λb w'=>b=ξ (I E 1)/\w=w':=by go_enter Er,Eu;go_wp2_with fail;refine(O' g a c _).mono ?_;rintro b e ⟨rfl,rfl⟩;go_wp2;all_goals(go_ret;exact⟨rfl,rfl⟩)
theorem UC(c:fu w g st F)(a:Nat)(f:BA)(d:a<16)(e:((st a).op&& !(st a).br)=false):ν δ 103 #[π (N (U g 0 A)),I E a,H f] w λb w'=>b=ξ (I E 12)/\w=w':=by obtain⟨vs,hF,h⟩:=c.ex;go_enter Er,Eu;go_wp2_with fail;refine(OX hF a d e).mono ?_;rintro b i ⟨rfl,rfl⟩;go_wp2;all_goals(go_ret;exact⟨rfl,rfl⟩)
theorem UB(f:fu w g st F)(a:Nat)(c:BA)(b:a<16)(o:((st a).op&& !(st a).br)=true)(p:(st a).left= -1)(s:(st a).out.size+c.size<=qW):ν δ 103 #[π (N (U g 0 A)),I E a,H c] w λe w'=>e=ξ (I E 0)/\∃d,fu w' g (cN st a {st a with out:=(st a).out++c}) d/\Y w w' F/\(∀i,d i->F i\/w.heap.size<=i):=by
 obtain⟨vs,hF,h⟩:=f.ex;have J:=hF.c2 b;rw[p] at J;have V:=hF.c3 b;have M:=hF.frozen (a*4+3);obtain⟨t,z,B,C,G⟩:=info_parts Hf;have r:=(h a b).1;have q:(N g:Option Nat)≠(vs a).ownBlock:=λe=>((h a b).2 g e.symm).2.1 rfl;simp only[qW] at s;have P:c.size<=9223372036854775807:=by omega
 go_enter Er,Eu;go_wp2_with fail;refine(CW hF a b o).mono ?_;rintro e S ⟨rfl,rfl⟩;go_wp2_with fail;go_region_law (refine IW rfl (.tmp 44) (.tmp 47) 113 9 rfl 0 5 t iZ lj z B C G _ _ _ (by simp[Act.eval]) r.drew c (by simp[Act.eval]) (by simp only[Χ];omega) (by omega) (ai _) ?_;intro R T m k hblk;have j:=(hF.drew.same (k.block g hF.lt q));have W:=j.c3 b;have O:=j.frozen (a*4+3);obtain⟨K,Q,L,rfl⟩:=IP m)
 go_wp2;all_goals go_ret
 all_goals
  obtain⟨d,u,x,y⟩:=Gl hF.drew (λn l=>⟨(h n l).1.drew,(h n l).2⟩) f.ca f.lt f.left a b _ c m k hblk;exact⟨rfl,d,u,x.yV rfl rfl rfl rfl,y⟩
theorem OG{vs:Nat->ε}{a:Nat}(m:a<16)(e:Int)(k:-1<=e/\e<=9223372036854775807)(l:F g)(lt:∀c,F c->c<w.heap.size)(left:∀a,a<16-> -1<=(st a).left/\(st a).left<=9223372036854775807)(h:∀a,a<16->w.ownsRow 0 5 1 (vs a) (st a).out.size (strCells (st a).out)/\∀c,(vs a).ownBlock=N c->F c/\c≠g/\∀b,b<16->b≠a->(vs b).ownBlock≠N c):(∀b,b<16->(w.setCell ⟨g,a*4+2,A⟩ (I E e)).ownsRow 0 5 1 (vs b) (cN st a {st a with left:=e} b).out.size (strCells (cN st a {st a with left:=e} b).out)/\∀c,(vs b).ownBlock=N c->F c/\c≠g/\∀i,i<16->i≠b->(vs i).ownBlock≠N c)/\(∀c,F c->c<(w.setCell ⟨g,a*4+2,A⟩ (I E e)).heap.size)/\(∀b,b<16-> -1<=(cN st a {st a with left:=e} b).left/\(cN st a {st a with left:=e} b).left<=9223372036854775807)/\Y w (w.setCell ⟨g,a*4+2,A⟩ (I E e)) F:=by
 refine⟨λb f=> ?_,λc j=>by simpa[eH] using lt c j,λb f=> ?_,Y.jy (sO (tK w (N g)) _ _) (λc d=>by injection d with d;exact d▸l)⟩
 .have d:(cN st a {st a with left:=e} b).out=(st b).out:=by unfold cN;by_cases d:b=a<;>simp[d]
  rw[d];refine⟨(h b f).1.kept (sO (tK w (N g)) _ _) ?_,(h b f).2⟩;cases hv:(vs b).ownBlock with
  |none=>exact .inl rfl
  |some c=>exact .inr (λd=>((h b f).2 c hv).2.1 (by injection d))
 by_cases d:b=a
 .subst d;rw[lK];exact k
 rw[xB _ _ _ _ d];exact left b f
theorem UA(e:fu w g st F)(a:Nat)(b:BA)(c:a<16)(x:((st a).op&& !(st a).br)=true)(d:Int)(o:(st a).left=d)(_hl0:d≠ -1)(ac:(b.size:Int)<=d)(B:(st a).out.size+b.size<=qW):ν δ 103 #[π (N (U g 0 A)),I E a,H b] w λi w'=>i=ξ (I E 0)/\∃h,fu w' g (cN st a {st a with left:=d-b.size,out:=(st a).out++b}) h/\Y w w' F/\(∀f,h f->F f\/w.heap.size<=f):=by
 obtain⟨vs,hF,p⟩:=e.ex;have y:=e.left a c;rw[o] at y;have S:=hF.c2 c;rw[o] at S;have ak:=hF.c3 c;have Z:=hF.frozen (a*4+2);have aa:=hF.frozen (a*4+3);obtain⟨G,O,P,Q,R⟩:=info_parts Hf;have z:(N g:Option Nat)≠(vs a).ownBlock:=λi=>((p a c).2 g i.symm).2.1 rfl;simp only[qW] at B;have ad:b.size<=9223372036854775807:=by omega
 have j:=hF.set2 c (d-b.size);obtain⟨k,M,left1,L⟩:=OG (w:=w) c (d-b.size) (by omega) e.ca e.lt e.left p;have r:=(k a c).1;simp only[lK] at r;have W:IntKind.i64.wrap (d-b.size)=d-b.size:=IntWalk.i64_in _ (by omega);have X:min (b.size:Int) d=b.size:=by omega
 go_enter Er,Eu;go_wp2_with fail;refine(CW hF a c x).mono ?_;rintro i ag ⟨rfl,rfl⟩;go_wp2_with fail;go_region_law (refine IW rfl (.tmp 44) (.tmp 47) 113 9 rfl 0 5 G iZ lj O P Q R _ _ _ (by simp[Act.eval]) r.drew b (by simp[Act.eval]) (by simp only[Χ];omega) (by omega) (ai _) ?_;intro af ah q m hblk;have l:=(j.drew.same (m.block g j.lt z));have al:=l.c3 c;have ab:=l.frozen (a*4+3);obtain⟨T,ae,V,rfl⟩:=IP q)
 go_wp2;all_goals go_ret
 all_goals
  obtain⟨h,t,J,K⟩:=Gl j.drew (λs n=>⟨(k s n).1.drew,(k s n).2⟩) e.ca M left1 a c _ b (by rw[lK];exact q) m hblk;simp only[D3,lK] at t;exact⟨rfl,h,t,L.trans (J.yV rfl rfl rfl rfl) (λaj C=> .inl C),λf u=>(K f u).imp id λe=>by simpa[eH] using e⟩
theorem fu.breaks(d:fu w g st F){c:Nat}(i:c<16):fu (w.setCell ⟨g,c*4+1,A⟩ (ι true)) g (cN st c {st c with br:=true}) F/\Y w (w.setCell ⟨g,c*4+1,A⟩ (ι true)) F:=by
 obtain⟨vs,hF,h⟩:=d.ex;refine⟨⟨⟨vs,hF.set1 i true,λb e=> ?_⟩,d.ca,λf j=>by simpa[eH] using d.lt f j,λb e=> ?_⟩,Y.jy (sO (tK w (N g)) _ _) (λf a=>by injection a with a;exact a▸d.ca)⟩
 .have a:(cN st c {st c with br:=true} b).out=(st b).out:=by unfold cN;by_cases a:b=c<;>simp[a]
  rw[a];refine⟨(h b e).1.kept (sO (tK w (N g)) _ _) ?_,(h b e).2⟩;cases hv:(vs b).ownBlock with
  |none=>exact .inl rfl
  |some f=>exact .inr (λa=>((h b e).2 f hv).2.1 (by injection a))
 by_cases a:b=c
 .subst a;rw[lK];exact d.left b e
 rw[xB _ _ _ _ a];exact d.left b e
theorem Uz(e:fu w g st F)(a:Nat)(d:BA)(c:a<16)(B:((st a).op&& !(st a).br)=true)(b:Nat)(C:(st a).left=(b:Int))(ah:b<d.size)(J:(st a).out.size+d.size<=qW):ν δ 103 #[π (N (U g 0 A)),I E a,H d] w λi w'=>i=ξ (I E 12)/\∃h,fu w' g (cN st a {st a with br:=true,left:=0,out:=(st a).out++d.extract 0 b}) h/\Y w w' F/\(∀f,h f->F f\/w.heap.size<=f):=by
 obtain⟨vs,hF,p⟩:=e.ex;have V:=hF.c2 c;rw[C] at V;have ap:=hF.c3 c;have ad:=hF.frozen (a*4+2);have ae:=hF.frozen (a*4+3);obtain⟨K,Q,R,S,T⟩:=info_parts Hf;have G:(N g:Option Nat)≠(vs a).ownBlock:=λi=>((p a c).2 g i.symm).2.1 rfl;simp only[qW] at J;have ak:d.size<=9223372036854775807:=by omega
 have k:=hF.set2 c 0;obtain⟨l,P,left1,O⟩:=OG (w:=w) c 0 (by omega) e.ca e.lt e.left p;have r:=(l a c).1;simp only[lK] at r;have aj:b<=d.size:=by omega
 have e0:¬(b:Int)= -1:=by omega
 have Z:¬(d.size:Int)<=b:=by omega
 have aa:¬(b:Int)<0:=by omega
 have ab:(d.extract 0 b).size=b:=by simp;omega
 have ac:min (d.size:Int) b=b:=by omega
 go_enter Er,Eu;go_wp2_with fail;refine(CW hF a c B).mono ?_;rintro i an ⟨rfl,rfl⟩;go_wp2_with fail;go_region_law (refine IW rfl (.tmp 44) (.tmp 47) 113 9 rfl 0 5 K iZ lj Q R S T _ _ _ (by simp[Act.eval]) r.drew (d.extract 0 b) (by simp[Act.eval]) (by simp only[Χ];omega) (by omega) (ai _) ?_;intro am ao q n hblk;have j:=(k.drew.same (n.block g k.lt G));have ar:=j.c3 c;have aq:=j.c1 c;have ag:=j.frozen (a*4+3);have af:=j.frozen (a*4+1);obtain⟨W,al,X,rfl⟩:=IP q)
 go_wp2;all_goals go_ret
 all_goals
  obtain⟨h,t,L,u⟩:=Gl k.drew (λs o=>⟨(l s o).1.drew,(l s o).2⟩) e.ca P left1 a c _ (d.extract 0 b) (by rw[lK];exact q) n hblk;simp only[D3,lK] at t;obtain⟨x,M⟩:=t.breaks c;simp only[D3,lK] at x;exact⟨rfl,h,x,(O.trans (L.yV rfl rfl rfl rfl) (λy m=> .inl m)).trans M (λy m=>(u y m).imp id λe=>by simpa[eH] using e),λf z=>(u f z).imp id λe=>by simpa[eH] using e⟩
end
def ep(a:PS):Int×PS:=if a.op=true then(8,a) else(0,⟨true,false, -1,kj⟩)
def jJ(b:Int)(a:PS):Int×PS:=if(a.op&& !a.br)=true then(0,{a with left:=max b (-1)}) else(12,a)
def nG(a:PS):Int×PS:=if a.op=true then(0,{a with op:=false}) else(12,a)
def ey(b:BA)(a:PS):Int×PS:=tz a b
def at_(a:PS->Int×PS)(st:Nat->PS)(id:Int):Int×(Nat->PS):=if 0<=id/\id<16 then((a (st id.toNat)).1,cN st id.toNat (a (st id.toNat)).2) else(1,st)
def rQ(w w':Z)(g:Nat)(c:Nat->PS)(F:Nat->Prop):Prop:=∃b,fu w' g c b/\Y w w' F/\(∀a,b a->F a\/w.heap.size<=a)
theorem DZ(st:Nat->PS)(a:Nat):cN st a (st a)=st:=by funext j;unfold cN;by_cases b:j=a<;>simp[b]
theorem Bw(b:PS->Int×PS)(st:Nat->PS)(a:Nat)(c:a<16):at_ b st (a:Int)=((b (st a)).1,cN st a (b (st a)).2):=by unfold at_;rw[ahM (by omega)];simp
theorem By(a:PS->Int×PS)(st:Nat->PS)(id:Int)(b:id<0\/16<=id):at_ a st id=(1,st):=by unfold at_;rw[WB (by omega)]
section
variable {w:Z} {g:Nat} {st:Nat->PS} {F:Nat->Prop}
theorem fu.stay(a:fu w g st F):rQ w w g st F:=⟨F,a,Y.refl w F,λ_ b=> .inl b⟩
theorem fu.Ik(h:fu w g st F){w':Z}{j:Nat->PS}{d:Nat}(u:d<16)(o:PS)(c:j=cN st d o)(vs' vs:Nat->ε)(i:∀d,d<16->w.ownsRow 0 5 1 (vs d) (st d).out.size (strCells (st d).out)/\∀b,(vs d).ownBlock=N b->F b/\b≠g/\∀a,a<16->a≠d->(vs a).ownBlock≠N b)(hF:cd w' g 118 j vs')(n:w.grownBy w' (N g))(hv:∀a,a<16->(vs' a=vs a/\(j a).out=(st a).out)\/(vs' a=V A 0 0/\(j a).out=kj))(s:-1<=o.left/\o.left<=9223372036854775807):rQ w w' g j F:=by
 refine⟨F,⟨⟨vs',hF,λa f=> ?_⟩,h.ca,λb e=>dQ (h.lt b e) n.size,λa f=> ?_⟩,Y.jy n (λb c=>by injection c with c;exact c▸h.ca),λb e=> .inl e⟩
 .obtain⟨k,l⟩|⟨k,l⟩:=hv a f
  .rw[k,l];refine⟨(i a f).1.kept n ?_,λb e=>⟨((i a f).2 b e).1,((i a f).2 b e).2.1,λq p r=> ?_⟩⟩
   .cases t:(vs a).ownBlock with
    |none=>exact .inl rfl
    |some b=>exact .inr (λc=>((i a f).2 b t).2.1 (by injection c))
   obtain⟨m,_⟩|⟨m,_⟩:=hv q p
   .rw[m];exact((i a f).2 b e).2.2 q p r
   rw[m];intro h;cases h
  rw[k,l];exact⟨db _ _ _ _,λb e=>by cases e⟩
 rw[c];by_cases c:a=d
 .subst c;rw[lK];exact s
 rw[xB _ _ _ _ c];exact h.left a f
theorem TN(d:fu w g st F)(id:Int):ν δ 27 #[π (N (U g 0 A)),I E id] w λb w'=>b=ξ (I E (at_ ep st id).1)/\rQ w w' g (at_ ep st id).2 F:=by
 by_cases c:id<0\/16<=id
 .rw[By _ _ _ c];refine(TU g id c w).mono ?_;rintro b w' ⟨rfl,rfl⟩;exact⟨rfl,d.stay⟩
 obtain⟨a,rfl⟩:∃a:Nat,id=a:=⟨id.toNat,by omega⟩;have c:a<16:=by omega
 rw[Bw _ _ _ c];obtain⟨vs,hF,j⟩:=d.ex;cases e:(st a).op with
 |true=>
  refine(TW hF a c e).mono ?_;rintro b w' ⟨rfl,rfl⟩;have f:ep (st a)=(8,st a):=by simp[ep,e]
  rw[f,DZ];exact⟨rfl,d.stay⟩
 |false=>
  refine(TS hF a c e).mono ?_;rintro b w' ⟨rfl,h,i⟩;have f:ep (st a)=(0,⟨true,false, -1,kj⟩):=by simp[ep,e]
  rw[f];refine⟨rfl,d.Ik c _ rfl _ vs j h i (λk l=> ?_) (by simp)⟩;by_cases b:k=a
  .exact .inr ⟨by simp[b],by subst b;simp[lK]⟩
  exact .inl ⟨by simp[b],by simp[xB _ _ _ _ b]⟩
theorem SJ(d:fu w g st F)(id:Int):ν δ 179 #[π (N (U g 0 A)),I E id] w λc w'=>c=ξ (I E (at_ nG st id).1)/\rQ w w' g (at_ nG st id).2 F:=by
 by_cases b:id<0\/16<=id
 .rw[By _ _ _ b];refine(Ta g id b w).mono ?_;rintro c w' ⟨rfl,rfl⟩;exact⟨rfl,d.stay⟩
 obtain⟨a,rfl⟩:∃a:Nat,id=a:=⟨id.toNat,by omega⟩;have b:a<16:=by omega
 rw[Bw _ _ _ b];obtain⟨vs,hF,j⟩:=d.ex;cases e:(st a).op with
 |false=>
  refine(SX hF a b e).mono ?_;rintro c w' ⟨rfl,rfl⟩;have f:nG (st a)=(12,st a):=by simp[nG,e]
  rw[f,DZ];exact⟨rfl,d.stay⟩
 |true=>
  refine(S8 hF a b e).mono ?_;rintro c w' ⟨rfl,h,i⟩;have f:nG (st a)=(0,{st a with op:=false}):=by simp[nG,e]
  rw[f];refine⟨rfl,d.Ik b _ rfl _ vs j h i (λk l=> .inl ⟨rfl,?_⟩) (d.left a b)⟩;unfold cN;by_cases c:k=a<;>simp[c]
theorem Sv(e:fu w g st F)(id b:Int)(n:b<=9223372036854775807):ν δ 69 #[π (N (U g 0 A)),I E id,I E b] w λd w'=>d=ξ (I E (at_ (jJ b) st id).1)/\rQ w w' g (at_ (jJ b) st id).2 F:=by
 by_cases c:id<0\/16<=id
 .rw[By _ _ _ c];refine(Sz g id b c w).mono ?_;rintro d w' ⟨rfl,rfl⟩;exact⟨rfl,e.stay⟩
 obtain⟨a,rfl⟩:∃a:Nat,id=a:=⟨id.toNat,by omega⟩;have c:a<16:=by omega
 rw[Bw _ _ _ c];obtain⟨vs,hF,k⟩:=e.ex;cases f:((st a).op&& !(st a).br) with
 |false=>
  refine(Sw hF a c b f).mono ?_;rintro d w' ⟨rfl,rfl⟩;have h:jJ b (st a)=(12,st a):=by unfold jJ;rw[f];rfl
  rw[h,DZ];exact⟨rfl,e.stay⟩
 |true=>
  refine(Sy hF a c b f).mono ?_;rintro d w' ⟨rfl,i,j⟩;have h:jJ b (st a)=(0,{st a with left:=max b (-1)}):=by unfold jJ;rw[f];rfl
  rw[h];refine⟨rfl,e.Ik c _ rfl _ vs k i j (λl m=> .inl ⟨rfl,?_⟩) ⟨by simp only[];omega,by simp only[];omega⟩⟩;unfold cN;by_cases d:l=a<;>simp[d]
theorem Uy(f:fu w g st F)(id:Int)(b:BA)(l:∀a,a<16->(st a).out.size+b.size<=qW):ν δ 103 #[π (N (U g 0 A)),I E id,H b] w λh w'=>h=ξ (I E (at_ (ey b) st id).1)/\rQ w w' g (at_ (ey b) st id).2 F:=by
 by_cases c:id<0\/16<=id
 .rw[By _ _ _ c];refine(UE g id b c w).mono ?_;rintro h w' ⟨rfl,rfl⟩;exact⟨rfl,f.stay⟩
 obtain⟨a,rfl⟩:∃a:Nat,id=a:=⟨id.toNat,by omega⟩;have c:a<16:=by omega
 rw[Bw _ _ _ c];have m:=f.left a c;cases d:((st a).op&& !(st a).br) with
 |false=>
  refine(UC f a b c d).mono ?_;rintro h w' ⟨rfl,rfl⟩;have e:ey b (st a)=(12,st a):=by unfold ey tz;rw[d];rfl
  rw[e,DZ];exact⟨rfl,f.stay⟩
 |true=>
  by_cases i:(st a).left= -1
  .refine(UB f a b c d i (l a c)).mono ?_;rintro h w' ⟨rfl,j⟩;have e:ey b (st a)=(0,{st a with out:=(st a).out++b}):=by unfold ey tz;rw[ahM d,ahM i]
   rw[e];exact⟨rfl,j⟩
  by_cases k:(b.size:Int)<=(st a).left
  .refine(UA f a b c d _ rfl i k (l a c)).mono ?_;rintro h w' ⟨rfl,j⟩;have e:ey b (st a)=(0,{st a with left:=(st a).left-b.size,out:=(st a).out++b}):=by unfold ey tz;rw[ahM d,WB i,ahM k]
   rw[e];exact⟨rfl,j⟩
  refine(Uz f a b c d (st a).left.toNat (by omega) (by omega) (l a c)).mono ?_;rintro h w' ⟨rfl,j⟩;have e:ey b (st a)=(12,{st a with br:=true,left:=0,out:=(st a).out++b.extract 0 (st a).left.toNat}):=by unfold ey tz;rw[ahM d,WB i,WB k]
  rw[e];exact⟨rfl,j⟩
end
def Dv:Nat->PS:=λ_=>⟨false,false,0,kj⟩
theorem TJ(w:Z):ν δ 23 #[] w λd w'=>d=ξ (π (N (U w.heap.size 0 A)))/\fu w' w.heap.size Dv (λc=>c=w.heap.size)/\w.grownBy w' A:=by
 go_enter func23,ntmps23;go_wp2;all_goals go_ret
 all_goals
  refine⟨rfl,⟨⟨λ_=> V A 0 0,⟨_,θ.new w 118 _,λa e=> ?_⟩,λa _=>⟨db _ _ _ _,λc b=>by cases b⟩⟩,rfl,λc b=> ?_,λa _=>⟨by simp[Dv],by simp[Dv]⟩⟩,World.grownBy_alloc w _ A⟩
  .rcases(by omega:a=0\/a=1\/a=2\/a=3\/a=4\/a=5\/a=6\/a=7\/a=8\/a=9\/a=10\/a=11\/a=12\/a=13\/a=14\/a=15) with rfl|rfl|rfl|rfl|rfl|rfl|rfl|rfl|rfl|rfl|rfl|rfl|rfl|rfl|rfl|rfl<;>exact⟨rfl,rfl,rfl,rfl⟩
  .subst b;simp
structure υ where
 id:Int
 ψ:BA
 ah:BA
 ax:BA
 Δ:Int
 aH:Int
def υ.cells(s:υ):Array ε:=#[I E s.id,H s.ψ,H s.ah,H s.ax,I E s.Δ,I E s.aH]
def same(a b:BA):Bool:=a.toList==b.toList
section
variable {w:Z} {b:Nat} {s:υ}
theorem zP(d:θ w b 42 s.cells):ν δ 181 #[π (N (U b 0 A))] w λc e=>c=ξ (ι (s.Δ== -1))/\w=e:=by have a:=d.cell 4;simp[υ.cells] at a;go_enter func181,ntmps181;go_wp2;all_goals(go_ret;exact⟨rfl,rfl⟩)
def mF(s:υ)(Ι:Int):Bool:=(s.Δ== -1)&&decide (s.aH<=Ι)
theorem Oy(d:θ w b 42 s.cells)(Ι:Int):ν δ 109 #[π (N (U b 0 A)),I E Ι] w λc g=>c=ξ (ι (mF s Ι))/\w=g:=by
 have a:=K (zP d);have f:=d.cell 5;simp[υ.cells] at f;unfold mF;cases e:(s.Δ== -1) with
 |false=>rw[e] at a;go_enter func109,ntmps109;go_wp2_with fail;refine a.out.mono ?_;rintro c h ⟨rfl,rfl⟩;go_wp2;all_goals(go_ret;exact⟨rfl,rfl⟩)
 |true=>rw[e] at a;go_enter func109,ntmps109;go_wp2_with fail;refine a.out.mono ?_;rintro c h ⟨rfl,rfl⟩;go_wp2;all_goals(go_ret;exact⟨rfl,rfl⟩)
theorem abQ(f:θ w b 42 s.cells)(a:Nat)(c:BA)(i:w.cell? (U a 0 A)=N (H c)):ν δ 76 #[π (N (U b 0 A)),π (N (U a 0 A))] w λe h=>e=ξ (ι (same s.ψ c))/\∃g,h=w.drewN g:=by
 have d:=f.cell 1;simp[υ.cells] at d;go_enter func76,ntmps76;go_wp2;go_quiet (fail)
 go_wp2;all_goals(go_ret;exact⟨rfl,_,rfl⟩)
theorem ahj(f:θ w b 42 s.cells)(a:Nat)(c:BA)(i:w.cell? (U a 0 A)=N (H c)):ν δ 297 #[π (N (U b 0 A)),π (N (U a 0 A))] w λe h=>e=ξ (ι (same s.ψ c))/\∃g,h=w.drewN g:=by
 have d:=f.cell 1;simp[υ.cells] at d;go_enter func297,ntmps297;go_wp2;go_quiet (fail)
 go_wp2;all_goals(go_ret;exact⟨rfl,_,rfl⟩)
def dW(s:υ)(a:Int):Bool:=(s.Δ==a)&& !(s.Δ== -1)
theorem abL(d:θ w b 42 s.cells)(c:Nat)(a:Int)(j:w.cell? (U c 0 A)=N (I E a)):ν δ 235 #[π (N (U b 0 A)),π (N (U c 0 A))] w λf h=>f=ξ (ι (dW s a))/\∃g,h=w.drewN g:=by
 have e:=d.cell 4;simp[υ.cells] at e;unfold dW;cases i:(s.Δ==a) with
 |false=>
  go_enter func235,ntmps235;go_wp2;go_quiet (fail)
  go_wp2;all_goals(go_ret;exact⟨by simp,_,rfl⟩)
 |true=>
  go_enter func235,ntmps235;go_wp2;go_quiet ((go_at_call 181;exact zJ (zP (d.drewN _))))
  go_wp2;all_goals(go_ret;exact⟨by simp,_,rfl⟩)
def mR(s:υ)(a:BA):Bool:=same s.ax a&& !a.toList.isEmpty
theorem abP(f:θ w b 42 s.cells)(c:Nat)(a:BA)(j:w.cell? (U c 0 A)=N (H a)):ν δ 295 #[π (N (U b 0 A)),π (N (U c 0 A))] w λe h=>e=ξ (ι (mR s a))/\∃g,h=w.drewN g:=by
 have d:=f.cell 3;simp[υ.cells] at d;unfold mR same;cases i:(s.ax.toList==a.toList) with
 |false=>
  go_enter func295,ntmps295;go_wp2;go_quiet (fail)
  go_wp2;all_goals(go_ret;exact⟨by simp,_,rfl⟩)
 |true=>
  go_enter func295,ntmps295;go_wp2;go_quiet (fail)
  go_wp2;all_goals(go_ret;exact⟨by simp,_,rfl⟩)
theorem Vt(c:θ w b 42 s.cells):ν δ 300 #[π (N (U b 0 A))] w λa e=>a=ξ (ι (!(s.Δ== -1)))/\∃d,e=w.drewN d:=by go_enter func300,ntmps300;go_wp2_with fail;refine(zP c).mono ?_;rintro a f ⟨rfl,rfl⟩;go_wp2;all_goals(go_ret;exact⟨rfl,0,rfl⟩)
theorem abO(d:θ w b 42 s.cells)(a:Nat)(Ι:Int)(g:w.cell? (U a 0 A)=N (I E Ι)):ν δ 108 #[π (N (U b 0 A)),π (N (U a 0 A))] w λc f=>c=ξ (ι (mF s Ι))/\∃e,f=w.drewN e:=by go_enter func108,ntmps108;go_wp2_with fail;refine(Oy d Ι).mono ?_;rintro c h ⟨rfl,rfl⟩;go_wp2;all_goals(go_ret;exact⟨rfl,0,rfl⟩)
end
def t1:BA:=(D #[115,117,98,115,99,114,105,98,101])
def t2:BA:=(D #[115,117,98,115,99,114,105,98,101,100])
def t3:BA:=(D #[117,110,115,117,98,115,99,114,105,98,101])
def t4:BA:=(D #[117,110,115,117,98,115,99,114,105,98,101,100])
theorem QP(a:Z):ν δ 303 #[] a λb c=>b=ξ (V (N (U a.heap.size 0 A)) 4 4)/\c=a.alloc (ζ #[H t1,H t2,H t3,H t4] 9):=by go_enter func303,ntmps303;go_wp2;go_ret;exact⟨rfl,rfl⟩
def pR(a b c d e:BA):Int:=if same a b then 0 else if same a c then 1 else if same a d then 2 else if same a e then 3 else -1
theorem ZN(b g h i j:BA)(m:Nat)(k:Z)(x:k.cell? (U m 0 A)=N (H g))(y:k.cell? (U m 1 A)=N (H h))(z:k.cell? (U m 2 A)=N (H i))(B:k.cell? (U m 3 A)=N (H j)):ν δ 117 #[V (N (U m 0 A)) 4 4,H b] k λt w=>t=ξ (I E (pR b g h i j))/\k=w:=by
 go_enter func117,ntmps117;go_wp2;go_loop [5,8] (λ_ o=>∃d:Nat,d<=4/\o=I E d/\(0<d->same b g=false)/\(1<d->same b h=false)/\(2<d->same b i=false)/\(3<d->same b j=false)) (λ_ o=>4-(aB o).toNat)
 case atStart=>exact⟨0,by omega,rfl,by omega,by omega,by omega,by omega⟩
 obtain⟨d,u,rfl,e0,p,q,r⟩:=hrel;have e:=K e0;have l:=K p;have n:=K q;have s:=K r;clear e0 p q r;match d,u with
 |0,_=>
  cases a:same b g
  .have c:=K a;have f:(b.toList==g.toList)=false:=a;clear a;go_wp2;refine⟨⟨1,by omega,rfl,λ_=>(by first|exact c.out|trivial),by omega,by omega,by omega⟩,by simp[aB]⟩
  have c:=K a;have f:(b.toList==g.toList)=true:=a;clear a;go_wp2;go_ret;exact⟨jT (by rw[pR,ahM c.out]),rfl⟩
 |1,_=>
  cases a:same b h
  .have c:=K a;have f:(b.toList==h.toList)=false:=a;clear a;go_wp2;refine⟨⟨2,by omega,rfl,λ_=>e.out (by omega),λ_=>(by first|exact c.out|trivial),by omega,by omega⟩,by simp[aB]⟩
  have c:=K a;have f:(b.toList==h.toList)=true:=a;clear a;go_wp2;go_ret;exact⟨jT (by rw[pR,WB (by rw[e.out (by omega)];decide),ahM c.out]),rfl⟩
 |2,_=>
  cases a:same b i
  .have c:=K a;have f:(b.toList==i.toList)=false:=a;clear a;go_wp2;refine⟨⟨3,by omega,rfl,λ_=>e.out (by omega),λ_=>l.out (by omega),λ_=>(by first|exact c.out|trivial),by omega⟩,by simp[aB]⟩
  have c:=K a;have f:(b.toList==i.toList)=true:=a;clear a;go_wp2;go_ret;exact⟨jT (by rw[pR,WB (by rw[e.out (by omega)];decide),WB (by rw[l.out (by omega)];decide),ahM c.out]),rfl⟩
 |3,_=>
  cases a:same b j
  .have c:=K a;have f:(b.toList==j.toList)=false:=a;clear a;go_wp2;refine⟨⟨4,by omega,rfl,λ_=>e.out (by omega),λ_=>l.out (by omega),λ_=>n.out (by omega),λ_=>(by first|exact c.out|trivial)⟩,by simp[aB]⟩
  have c:=K a;have f:(b.toList==j.toList)=true:=a;clear a;go_wp2;go_ret;exact⟨jT (by rw[pR,WB (by rw[e.out (by omega)];decide),WB (by rw[l.out (by omega)];decide),WB (by rw[n.out (by omega)];decide),ahM c.out]),rfl⟩
 |4,_=>go_wp2;go_ret;exact⟨jT (by rw[pR,WB (by rw[e.out (by omega)];decide),WB (by rw[l.out (by omega)];decide),WB (by rw[n.out (by omega)];decide),WB (by rw[s.out (by omega)];decide)]),rfl⟩
def dr(a:BA):Int:=pR a t1 t2 t3 t4+1
theorem ZD(a b c d e:BA): -1<=pR a b c d e/\pR a b c d e<=3:=by
 unfold pR
 repeat' split
 all_goals omega
theorem Lq(a:BA)(c:Z):ν δ 246 #[H a] c λb d=>b=ξ (I E (dr a))/\bH c.heap.size c d:=by obtain⟨f,g⟩:=ZD a t1 t2 t3 t4;go_enter func246,ntmps246;go_wp2_with fail;refine(QP _).mono ?_;rintro b e ⟨rfl,rfl⟩;go_wp2_with fail;refine(ZN a t1 t2 t3 t4 _ _ (by simp[go_sem]) (by simp[go_sem]) (by simp[go_sem]) (by simp[go_sem])).mono ?_;rintro b e ⟨rfl,rfl⟩;go_wp2;go_ret;exact⟨rfl,(iz _ _).alloc (Ο _) _⟩
def kT(a:Int):BA:=if a=1 then t1 else if a=2 then t2 else if a=3 then t3 else if a=4 then t4 else⟨#[]⟩
theorem aa9(b a:Int)(f:a=1\/a=2\/a=3\/a=4)(c:Z)(e:b=a):ν δ 305 #[I E b] c λd g=>d=ξ (H (kT b))/\bH c.heap.size c g:=by
 subst e;obtain rfl|rfl|rfl|rfl:=f
 all_goals
  go_enter func305,ntmps305;go_wp2_with (go_at_call 303;refine(QP _).mono ?_;rintro d h ⟨rfl,rfl⟩);go_ret;exact⟨rfl,(iz _ _).alloc (Ο _) _⟩
theorem abc(a:Int)(e:a<1)(c:Z):ν δ 305 #[I E a] c λb d=>b=ξ (H (kT a))/\bH c.heap.size c d:=by
 have b:kT a=(D #[]):=by unfold kT;rw[WB (by omega),WB (by omega),WB (by omega),WB (by omega)]
 rw[b];clear b;go_enter func305,ntmps305;go_wp2;go_ret;exact⟨rfl,iz _ _⟩
theorem aa7(a:Int)(e:4<a)(c:Z):ν δ 305 #[I E a] c λb d=>b=ξ (H (kT a))/\bH c.heap.size c d:=by
 have b:kT a=(D #[]):=by unfold kT;rw[WB (by omega),WB (by omega),WB (by omega),WB (by omega)]
 rw[b];clear b;have f:¬a<1:=by omega
 go_enter func305,ntmps305;go_wp2;go_ret;exact⟨rfl,iz _ _⟩
theorem Pu(a:Int)(b:Z):ν δ 305 #[I E a] b λc f=>c=ξ (H (kT a))/\bH b.heap.size b f:=by
 by_cases d:a<1
 .exact abc a d b
 by_cases e:4<a
 .exact aa7 a e b
 exact aa9 a a (by omega) b rfl
def dY:BA:=(D #[97,110,110])
def eV:BA:=(D #[98,111,98])
def cy:BA:=(D #[99,121])
def aO:BA:=(D #[100,101,101])
def us:List BA:=[dY,eV,cy,aO]
abbrev Sd:=Int×Bool×Bool
abbrev lI(a:Sd):ε:=S a.1 a.2.1 a.2.2
def oO(a:Sd):Bool:=dL a.1 a.2.1 a.2.2
structure aY where
 aX:BA->BA->Sd
 aR:BA->BA->Option BA
 bl:BA->Int
structure fO (w:Z) (g:Nat) (s:aY) (F:Bs) (ub uc sb nb vb:Nat) (ms mn:BA×BA->Option ε) (mv:BA->Option ε):Prop where
 blk:θ w g 98 #[V (N (U ub 0 A)) 4 uc,ω (N sb),ω (N nb),ω (N vb)]
 own:w.ownsRow 0 9 1 (V (N (U ub 0 A)) 4 uc) 4 (us.map H)
 aX:aC iY w sb ms 16
 aR:aC iY w nb mn 16
 oU:aC bR w vb mv 4
 side:∀u c,(ms (u,c)).getD (S 0 false false)=lI (s.aX u c)
 name:∀u c,mn (u,c)=(s.aR u c).map H
 bl:∀u,(mv u).getD (I E 0)=I E (s.bl u)
 Hd:∀u c,(ms (u,c)).isSome=true->u∈us/\c∈us
 ze:∀u c,(s.aR u c).isSome=true->u∈us/\c∈us
 He:∀u,(mv u).isSome=true->u∈us
 right:∀u c,oO (s.aX u c)=true
 small:∀u c n,s.aR u c=N n->n.size<=40
 ca:∀u,s.aR u u=A
 apart:g≠ub/\g≠sb/\g≠nb/\g≠vb/\ub≠sb/\ub≠nb/\ub≠vb/\sb≠nb/\sb≠vb/\nb≠vb
 ak:∀k,F k↔(k=g\/k=ub\/k=sb\/k=nb\/k=vb)
def eQ(w:Z)(g:Nat)(s:aY)(F:Bs):Prop:=∃ub uc sb nb vb ms mn mv,fO w g s F ub uc sb nb vb ms mn mv
section
variable {w w':Z} {g:Nat} {s:aY} {F:Bs} {ub uc sb nb vb:Nat} {ms mn:BA×BA->Option ε} {mv:BA->Option ε}
theorem fO.lt(a:fO w g s F ub uc sb nb vb ms mn mv):∀b,F b->b<w.heap.size:=by
 intro b c;obtain rfl|rfl|rfl|rfl|rfl:=(a.ak b).1 c
 .exact a.blk.lt
 .exact ie a.own rfl
 .exact a.aX.lt
 .exact a.aR.lt
 exact a.oU.lt
theorem fO.stay(a:fO w g s F ub uc sb nb vb ms mn mv)(b:∀c,F c->w'.heap[c]? =w.heap[c]?):fO w' g s F ub uc sb nb vb ms mn mv:=
 {a with
  blk:=(b g ((a.ak g).2 (.inl rfl))).trans a.blk
  own:=pY a.own λd f=>b d ((a.ak d).2 (.inr (.inl (by injection f with e;exact e.symm))))
  aX:=a.aX.same (b sb ((a.ak sb).2 (by simp)))
  aR:=a.aR.same (b nb ((a.ak nb).2 (by simp)))
  oU:=a.oU.same (b vb ((a.ak vb).2 (by simp)))}
theorem fO.keeps{G:Bs}(b:fO w g s F ub uc sb nb vb ms mn mv)(e:Y w w' G)(d:∀a,F a->¬G a):fO w' g s F ub uc sb nb vb ms mn mv:=
 b.stay λa c=>e.block a (b.lt a c) (d a c)
theorem fG(g:Nat)(s:aY):ju λw F=>eQ w g s F where
 lt a k hk:=by obtain⟨_,_,_,_,_,_,_,_,a⟩:=a;exact a.lt k hk
 stay a he:=by obtain⟨ub,uc,sb,nb,vb,ms,mn,mv,a⟩:=a;exact⟨ub,uc,sb,nb,vb,ms,mn,mv,a.stay he⟩
theorem fO.cell(d:fO w g s F ub uc sb nb vb ms mn mv)(a:Nat)(b:a<4):w.cell? (U ub a A)=N (H (us[a]'b)):=by
 have:=d.own.cells (g:=ub) rfl a (H (us[a]'b)) (by rw[ml];exact(by rw[cT (by exact b)];rfl));have c:((⟨ub,0,A⟩:ay).add a)=⟨ub,a,A⟩:=by unfold jm;by_cases e:a=0<;>simp[e]
 rw[c] at this;exact this
end
def cX(s:BA):Prop:=s.size<=1000000
theorem jk{s:BA}(a:cX s):s.size<=Χ:=by unfold cX at a;unfold Χ;omega
theorem gH:∀b∈us,cX b:=by intro b a;simp[us] at a;rcases a with rfl|rfl|rfl|rfl<;>(show(_:Nat)<=_;decide)
theorem Jp:prog.underlying 94=N (.map 146 148):=by kernel_rfl
theorem DX:prog.underlying 95=N (.map 146 9):=by kernel_rfl
theorem Ro:prog.underlying 96=N (.map 9 3):=by kernel_rfl
theorem ahE:∀w:Z,nW δ (zeroValue 148) w= .ok (S 0 false false) w:=λ_=>by kernel_rfl
theorem ahF:∀w:Z,nW δ (zeroValue 3) w= .ok (I E 0) w:=λ_=>by kernel_rfl
def oE(s:aY)(b a:BA):BA:=(s.aR b a).getD ⟨#[]⟩
section
variable {w:Z} {g:Nat} {s:aY} {F:Bs} {ub uc sb nb vb:Nat} {ms mn:BA×BA->Option ε} {mv:BA->Option ε}
theorem fO.Pt(d:fO w g s F ub uc sb nb vb ms mn mv){b a:BA}(f:cX b)(e:cX a):(cw 95 (ω (N nb)) (Μ #[H b,H a]) true).run δ w= .ok (σ #[H (oE s b a),ι (s.aR b a).isSome]) w:=by have c:=d.aR.look_ok qT (t:=95) (e:=9) DX (Ed w) (x:=(b,a)) ⟨jk f,jk e⟩;rw[d.name] at c;simp only[iY] at c;rw[c];unfold oE;cases s.aR b a<;>rfl
theorem fO.Du(c:fO w g s F ub uc sb nb vb ms mn mv){b a:BA}(f:cX b)(e:cX a):(cw 94 (ω (N sb)) (Μ #[H b,H a]) false).run δ w= .ok (lI (s.aX b a)) w:=by have d:=c.aX.look qT (t:=94) (e:=148) Jp (ahE w) (x:=(b,a)) ⟨jk f,jk e⟩;rw[c.side] at d;exact d
theorem fO.Rw(b:fO w g s F ub uc sb nb vb ms mn mv){a:BA}(d:cX a):(cw 96 (ω (N vb)) (H a) false).run δ w= .ok (I E (s.bl a)) w:=by have c:=b.oU.look dG (t:=96) (e:=3) Ro (ahF w) (x:=a) (jk d);rw[b.bl] at c;exact c
end
theorem GB{w:Z}{g:Nat}{s:aY}{F:Bs}(c:eQ w g s F){b a:BA}(h:cX b)(f:cX a):ν δ 308 #[π (N (U g 0 A)),H b,H a] w λe w'=>e=ξ (σ #[H (oE s b a),ι (s.aR b a).isSome])/\w'=w:=by obtain⟨ub,uc,sb,nb,vb,ms,mn,mv,c⟩:=c;have d:=c.blk.cell 2;have i:=c.Pt h f;simp only[gz_] at d;clear c;go_enter func308,ntmps308;go_wp2;exact Ω (v:=σ #[H (oE s b a),ι (s.aR b a).isSome]) (by simp[ag,results308,go_sem]) rfl ⟨rfl,rfl⟩
abbrev It:=BA×BA×Int×Bool
def eW(a:It):List ε:=[H a.1,H a.2.1,I E a.2.2.1,ι a.2.2.2]
def ej(a:List It):List ε:=a.flatMap eW
def Cz(s:aY)(b a:BA):Option It:=(s.aR b a).map λc=>(a,c,(s.aX b a).1,(s.aX b a).2.1)
def mD(s:aY)(b:BA)(a:List BA):List It:=a.filterMap (Cz s b)
def aM(s:aY)(a:BA):List It:=mD s a us
def Ks(b:Z)(a:List It)(c:aI)(w:Z):Prop:=∃v,c=ξ v/\w.ownsRow b.heap.size 150 4 v a.length (ej a)/\Y b w γ
theorem agP:prog.underlying 45=N (.slice 150):=by kernel_rfl
theorem afe:(prog.info? 150).map (λa=>(a.zero,a.size,a.bytes))=N (N (Μ #[H (D #[]),H (D #[]),I E 0,ι false]),4,48):=by kernel_rfl
theorem Lu{w:Z}(c:Nat){v:ε}{d:Nat}{g:List ε}(i:w.ownsRow c 150 4 v d g)(a:It)(j:d<=1000000)(h:c<=w.heap.size):∃e w',(gJ #[45,45] 45 #[v,V (N (U w.heap.size 0 A)) 1 1]).run δ (w.alloc (ζ #[H a.1,H a.2.1,I E a.2.2.1,ι a.2.2.2] 150))= .ok e w'/\w'.ownsRow c 150 4 e (d+1) (g++eW a)/\Y w w' (λb=>v.ownBlock=N b)/\∀b,e.ownBlock=N b->v.ownBlock=N b\/w.heap.size<=b:=
 nA c 45 150 agP afe rfl (by decide) i (eW a) rfl (λk f=>by simp[eW] at f;rcases f with rfl|rfl|rfl|rfl<;>rfl) (by unfold Χ;omega) (by omega) h
theorem cC{w:Z}{b:Nat}{e:aQ}{h:Nat}{v:ε}{a:Nat}{g:List ε}(f:w.ownsRow b e h v a g):∃c d,v=V c a d:=by
 obtain⟨rfl,rfl⟩|⟨i,j,k,rfl,_⟩:=f.2
 .exact⟨A,0,rfl⟩
 exact⟨_,_,rfl⟩
theorem CI{w:Z}{g:Nat}{s:aY}{F:Bs}(h:eQ w g s F){b:BA}(y:cX b):ν δ 41 #[π (N (U g 0 A)),H b] w (Ks w (aM s b)):=by
 obtain⟨ub,uc,sb,nb,vb,ms,mn,mv,h⟩:=h;have J:=h.blk.cell 0;simp only[gz_] at J;go_enter func41,ntmps41;go_wp2;go_loopw [5,7,8,9,10,16] (λT _ _ _ _ o wr=>∃(a:Nat),a<=4/\o=I E a/\wr.ownsRow w.heap.size 150 4 T (mD s b (us.take a)).length (ej (mD s b (us.take a)))/\Y w wr γ) (λ_ _ _ _ _ o _=>4-(aB o).toNat)
 case atStart=>exact⟨0,ai _,rfl,db _ _ _ _,Y.refl _ _⟩
 obtain⟨a,ac,rfl,e,f⟩:=hrel;have c:=h.keeps f λ_ _ h=>h;by_cases i:a<4
 .have ae:(a:Int)<4:=by omega
  have aj:=c.cell a i;have L:=c.blk.cell 0;have M:=c.blk.cell 1;have O:=c.blk.cell 2;simp only[gz_] at L M O;have u:cX (us[a]'i):=gH _ (eA (l:=us) i);have l:=c.Pt y u;have W:=c.Du y u;have x:us.take (a+1)=us.take a++[us[a]'i]:=lq (l:=us) i;have TT:=K x;clear x;generalize us[a]'i=d at*;have ad:(mD s b (us.take a)).length<=4:=aJ (List.length_filterMap_le _ _) (by rw[lO];omega);cases j:s.aR b d with
  |none=>
   have k:mD s b (us.take (a+1))=mD s b (us.take a):=by rw[TT.out,mD,List.filterMap_append];simp[mD,Cz,j]
   rw[j] at l;simp only[Option.isSome_none] at l;clear c W;go_wp2;exact⟨⟨a+1,by omega,by go_num,by rw[k];exact e,f⟩,by simp[aB];omega⟩
  |some p=>
   have k:mD s b (us.take (a+1))=mD s b (us.take a)++[(d,p,(s.aX b d).1,(s.aX b d).2.1)]:=by rw[TT.out,mD,List.filterMap_append];simp[mD,Cz,j]
   have t:oE s b d=p:=by simp[oE,j]
   rw[j,t] at l;simp only[Option.isSome_some] at l;have C:=K k;clear c k t TT j;generalize s.aX b d=X at*;obtain⟨n,m,r⟩:=X;simp only at*;have B:=θ.new wr 148 #[I E n,ι m,ι r];have R:=B.cell 0;have S:=B.cell 1;simp only[gz_] at R S;obtain⟨ag,ah,q,V,Q,af⟩:=Lu w.heap.size (e.alloc (ζ #[I E n,ι m,ι r] 148)) (d,p,n,m) (by omega) (by have:=f.size;simp;omega);have z:(wr.alloc (ζ #[I E n,ι m,ι r] 148)).heap.size=wr.heap.size+1:=by simp
   rw[z] at q;clear z;simp only at q;go_wp2_with (at_builtin;refine dy rfl (.tmp 40) (.tmp 48) 45 rfl rfl rfl q ?_);refine⟨⟨a+1,by omega,by go_num,?_,?_⟩,by simp[aB];omega⟩
   .rw[C.out];simpa[ej] using V
   exact(f.alloc _).trans Q λG P=> .inr ((e.lt G P).1)
 obtain rfl:a=4:=by omega
 obtain⟨aa,ab,rfl⟩:=cC e;have e:=K e;have f:=K f;clear c;go_wp2;go_ret;exact⟨_,rfl,e.out,f.out⟩
def yy(b:Z)(a:List BA)(c:aI)(w:Z):Prop:=∃v,c=ξ v/\w.ownsRow b.heap.size 9 1 v a.length (a.map H)/\Y b w γ
def mQ(s:aY)(d:BA)(c:Int->Bool)(b:List BA):List BA:=b.filter λa=>c (s.aX d a).1
theorem RE{w:Z}{g:Nat}{s:aY}{F:Bs}(d:eQ w g s F){b:BA}(R:cX b)(h:Nat)(c:Int->Bool)(r:∀args w,(callFunc h args).run δ w= .ok (.enter h args) w)(y:∀C L q p,ν δ h #[S C L q] p λk ae=>k=ξ (ι (c C))/\bH p.heap.size p ae):ν δ 57 #[π (N (U g 0 A)),H b,.func (.func h) #[] #[]] w (yy w (mQ s b c us)):=by
 obtain⟨ax,ay,aw,ar,aA,ap,ao,aq,d⟩:=d;have M:=d.blk.cell 0;simp only[gz_] at M;have r:=K r;have J:=K y;clear y;go_enter func57,ntmps57;go_wp2;go_loopw [7,9,17] (λV _ u wr=>∃(a:Nat),a<=4/\u=I E a/\wr.ownsRow w.heap.size 9 1 V (mQ s b c (us.take a)).length ((mQ s b c (us.take a)).map H)/\Y w wr γ) (λ_ _ u _=>4-(aB u).toNat)
 case atStart=>exact⟨0,ai _,rfl,db _ _ _ _,Y.refl _ _⟩
 obtain⟨a,al,rfl,e,f⟩:=hrel;have l:=d.keeps f λ_ _ d=>d;by_cases i:a<4
 .have an:(a:Int)<4:=by omega
  have aE:=l.cell a i;have O:=l.blk.cell 1;simp only[gz_] at O;have Q:cX (us[a]'i):=gH _ (eA (l:=us) i);have av:=l.Du R Q;have B:us.take (a+1)=us.take a++[us[a]'i]:=lq (l:=us) i;have TT:=K B;clear B l;generalize us[a]'i=o at*;have am:(mQ s b c (us.take a)).length<=4:=aJ (jo _ _) (by rw[lO];omega);have x:mQ s b c (us.take (a+1))=mQ s b c (us.take a)++(if c (s.aX b o).1 then[o] else[]):=by rw[TT.out,mQ,List.filter_append];simp only[mQ,List.filter_cons,List.filter_nil]
  clear TT;generalize s.aX b o=ac at*;obtain⟨G,ab,ad⟩:=ac;simp only at*;have m:=K x;clear x;have ak:=r.out;have n:=K (J.out G ab ad wr);cases z:c G with
  |true=>
   rw[z] at n m;go_wp2_with (first|(go_at_fn h;refine n.out.mono ?_;rintro k ag ⟨rfl,t⟩;have j:=Y.of_below t γ;have W:=aD e j λ_ _ d=>d;obtain⟨az,aC,aa,X,T,au⟩:=nB w.heap.size W o (by omega) (aJ f.size j.size))|(at_builtin;refine dy rfl (.tmp 31) (.tmp 33) 26 rfl rfl rfl aa ?_));refine⟨⟨a+1,by omega,by go_num,?_,?_⟩,by simp[aB];omega⟩
   .rw[m.out];simpa using X
   exact(f.trans j Η).trans T λq k=> .inr ((e.lt q k).1)
  |false=>
   rw[z] at n m;go_wp2_with (go_at_fn h;refine n.out.mono ?_;rintro k ag ⟨rfl,t⟩;have j:=Y.of_below t γ);have P:mQ s b c (us.take (a+1))=mQ s b c (us.take a):=by rw[m.out];simp
   exact⟨⟨a+1,by omega,by go_num,by rw[P];exact aD e j λ_ _ d=>d,f.trans j Η⟩,by simp[aB];omega⟩
 obtain rfl:a=4:=by omega
 obtain⟨ah,aj,rfl⟩:=cC e;have e:=K e;have f:=K f;clear l;go_wp2;go_ret;exact⟨_,rfl,e.out,f.out⟩
def Gp(s:aY)(a:BA):List BA:=mQ s a fL us
def rA(s:aY)(a:BA):List BA:=mQ s a gu us
section
variable {w:Z} {g:Nat} {s:aY} {F:Bs}
theorem Sm(b:eQ w g s F){a:BA}(d:cX a):ν δ 267 #[π (N (U g 0 A)),H a] w (yy w (Gp s a)):=by have c:=K (RE b d 322 fL (enters_of func322 (by kernel_rfl) rfl) Qf);clear b;go_enter func267,ntmps267;go_wp2_with fail;refine c.out.mono ?_;rintro h i ⟨v,rfl,f,e⟩;go_wp2;go_ret;exact⟨_,rfl,f,e⟩
theorem Ll(a:eQ w g s F){u:BA}(c:cX u):ν δ 26 #[π (N (U g 0 A)),H u] w (yy w (rA s u)):=by have b:=K (RE a c 58 gu (enters_of func58 (by kernel_rfl) rfl) IG);clear a;go_enter func26,ntmps26;go_wp2_with fail;refine b.out.mono ?_;rintro f h ⟨v,rfl,e,d⟩;go_wp2;go_ret;exact⟨_,rfl,e,d⟩
end
def Io:List (BA×BA):=us.flatMap λb=>us.map λa=>(b,a)
theorem Pk{b a:BA}(d:b∈us)(c:a∈us):(b,a)∈Io:=List.mem_flatMap.2 ⟨b,d,eO.2 ⟨a,c,rfl⟩⟩
def zL(s:aY)(d c:BA)(e f:Sd):aY:= {s with aX:=λa b=>if a=d/\b=c then e else if a=c/\b=d then f else s.aX a b}
section
variable {w w':Z} {g:Nat} {s:aY} {F:Bs} {ub uc sb nb vb:Nat} {ms mn:BA×BA->Option ε} {mv:BA->Option ε}
theorem zH(d:BA×BA->Option ε)(a:BA×BA)(v:Option ε)(b c:BA):put d a v (b,c)=if b=a.1/\c=a.2 then v else d (b,c):=by unfold put;obtain⟨e,f⟩:=a;simp only[Prod.mk.injEq]
theorem fO.adt(f:fO w g s F ub uc sb nb vb ms mn mv){d c:BA}(t:d∈us)(p:c∈us)(q:d≠c)(i j:Sd)(y:oO i=true)(z:oO j=true){B:Nat}(A:aC iY w' sb (put (put ms (d,c) (N (lI i))) (c,d) (N (lI j))) B)(k:Y w w' (·=sb)):fO w' g (zL s d c i j) F ub uc sb nb vb (put (put ms (d,c) (N (lI i))) (c,d) (N (lI j))) mn mv:=by
 have a:=f.apart
 have m:∀a b,(put (put ms (d,c) (N (lI i))) (c,d) (N (lI j)) (a,b)).isSome=true->a∈us/\b∈us:=λa b n=>by
  rw[zH,zH] at n;by_cases h:a=c/\b=d
  .exact⟨h.1▸p,h.2▸t⟩
  by_cases e:a=d/\b=c
  .exact⟨e.1▸t,e.2▸p⟩
  simp only[h,e,if_false] at n;exact f.Hd a b n
 exact {f with
  blk:=k.blk f.blk (by omega)
  own:=aD f.own k (λb x o=>by injection x with u;simp only at u;omega)
  aX:=A.tight qT Io λl _ r=>Pk (m l.1 l.2 r).1 (m l.1 l.2 r).2
  aR:=f.aR.keeps k (by omega)
  oU:=f.oU.keeps k (by omega)
  Hd:=m
  side:=λa b=>by
   rw[zH,zH];unfold zL;by_cases h:a=c/\b=d
   .have e:¬(a=d/\b=c):=λe=>q (e.1.symm.trans h.1);simp only[h,and_self,if_true];rw[WB (λo=>q o.1.symm)];rfl
   .by_cases e:a=d/\b=c
    .simp only[h,if_false];rw[ahM e,ahM e];rfl
    simp only[h,e,if_false];exact f.side a b
  right:=λa b=>by
   unfold zL;simp only;split
   .exact y
   .split
    .exact z
    exact f.right a b}
end
def BW(a:Sd)(b:Int):Bool:=lA a.1 a.2.1 a.2.2 b
def Cn(a:Sd)(b:Int):Bool:=sI a.1 a.2.1 a.2.2 b
def uw(a c:Sd)(b:Int):Sd:=(vR a.1 a.2.1 a.2.2 c.1 b,vP a.1 a.2.1 a.2.2 c.1 b,vQ a.1 a.2.1 a.2.2 c.1 b)
def ux(a b:Sd)(c:Int):Sd:=(vV a.1 a.2.1 a.2.2 b.1 b.2.1 b.2.2 c,vS a.1 a.2.1 a.2.2 b.1 b.2.1 b.2.2 c,vT a.1 a.2.1 a.2.2 b.1 b.2.1 b.2.2 c)
theorem ac5(b g:Sd)(a:Int)(c:oO b=true)(d:1<=a)(e:a<=4):oO (uw b g a)=true:=by
 unfold uw oO vR vP vQ;simp only;by_cases f:(lA b.1 b.2.1 b.2.2 a&&sF g.1 a)=true
 .simp only[f,if_true];exact P' _ _ _ 2 (Iy _ _ _ a c d e) (by omega) (by omega)
 simp only[f,if_false];exact Iy _ _ _ a c d e
theorem ac6(b e:Sd)(a:Int)(c:oO e=true)(f:1<=a)(g:a<=4):oO (ux b e a)=true:=by
 unfold ux oO vV vS vT;simp only;by_cases d:lA b.1 b.2.1 b.2.2 a=true
 .simp only[d,if_true];exact P' _ _ _ a c f g
 simp only[d,if_false];exact c
abbrev Tl:=BA×BA×Int
def ru(a:Tl):List ε:=[H a.1,H a.2.1,I E a.2.2]
def jB(a:List Tl):List ε:=a.flatMap ru
def je(s:aY)(c b:BA)(a:Int):List Tl:=if BW (s.aX c b) a&&Cn (s.aX b c) a then[(b,c,a)] else[]
def iS(s:aY)(b a:BA)(c:Int):aY:=zL s b a (uw (s.aX b a) (s.aX a b) c) (ux (s.aX b a) (s.aX a b) c)
def qL(b:Z)(g:Nat)(s:aY)(F:Bs)(a:List Tl)(v:ε)(w:Z):Prop:=
 w.ownsRow b.heap.size 371 3 v a.length (jB a)/\eQ w g s F/\Y b w F
theorem Ol{b a c:Z}{d e f:Prop}(h:bH a.heap.size a c)(g:d/\e/\f/\Y b a γ):Y b c γ:=g.2.2.2.trans (Y.of_below h γ) Η
theorem ad7{g:Z}{a:Nat}{h i j k l b c d e f:ε}(m:θ g a 405 #[h,i,j,k,l]):θ (((((g.setCell (U a 0 A) b).setCell (U a 1 A) c).setCell (U a 2 A) d).setCell (U a 3 A) e).setCell (U a 4 A) f) a 405 #[b,c,d,e,f]:=
 (((((m.χ 0 b).χ 1 c).χ 2 d).χ 3 e).χ 4 f).to (by simp)
theorem Px(a:Z)(c d e b f:ε):(a.alloc (ζ #[c,d,e,b,f] 405)).cell? (U a.heap.size 3 A)=N b:=(θ.new a 405 #[c,d,e,b,f]).cell 3
theorem Qk{b:Z}{a:Nat}{d e f g h:ε}(i:θ b a 405 #[d,e,f,g,h])(j k l c m:ε):
 (((((b.setCell (U a 0 A) j).setCell (U a 1 A) k).setCell (U a 2 A) l).setCell (U a 3 A) c).setCell (U a 4 A) m).cell? (U a 3 A)=N c:=(ad7 i).cell 3
theorem Qt{c d:Z}{a:Nat}{f g h i j:ε}(e:Y c d γ)(b:c.heap.size<=a):Y c (((((d.setCell (U a 0 A) f).setCell (U a 1 A) g).setCell (U a 2 A) h).setCell (U a 3 A) i).setCell (U a 4 A) j) γ:=
 uP (uP (uP (uP (uP e b _ _) b _ _) b _ _) b _ _) b _ _
theorem Qu{b c:Z}{a:Array ε}(d:bH (b.alloc (ζ a 405)).drew.heap.size (b.alloc (ζ a 405)).drew c):θ c b.heap.size 405 a:=(d.block _ (by simp)).trans (θ.new _ _ _)
theorem Qr{a:Z}{b:Nat}{d e f g h:ε}(c:θ a b 405 #[d,e,f,g,h]):(a.cell? (U b 0 A)=N d/\a.cell? (U b 1 A)=N e/\a.cell? (U b 2 A)=N f/\a.cell? (U b 3 A)=N g/\a.cell? (U b 4 A)=N h)/\(a.frozen? (U b 0 A)=false/\a.frozen? (U b 1 A)=false/\a.frozen? (U b 2 A)=false/\a.frozen? (U b 3 A)=false/\a.frozen? (U b 4 A)=false):=
 ⟨⟨c.cell 0,c.cell 1,c.cell 2,c.cell 3,c.cell 4⟩,c.frozen _,c.frozen _,c.frozen _,c.frozen _,c.frozen _⟩
theorem Bu{w:Z}{g:Nat}{s:aY}{F:Bs}(h:eQ w g s F){b a:BA}(aP:b∈us)(aN:a∈us)(a8:b≠a)(d:Int)(R:1<=d)(T:d<=4):ν δ 309 #[π (N (U g 0 A)),H b,H a,I E d] w λm w'=>∃v,m=ξ v/\qL w g (iS s b a d) F (je s b a d) v w':=by
 obtain⟨ub,uc,sb,nb,vb,ms,mn,mv,h⟩:=h;have ag:=gH _ aP;have af:=gH _ aN;have ad:=h.right b a;have ae:=h.right a b;have av:∀f,Y w f γ->(cw 94 (ω (N sb)) (Μ #[H b,H a]) false).run δ f= .ok (lI (s.aX b a)) f:=λf e=>(h.keeps e λ_ _ h=>h).Du ag af;have aU:∀f,Y w f γ->(cw 94 (ω (N sb)) (Μ #[H a,H b]) false).run δ f= .ok (lI (s.aX a b)) f:=λf e=>(h.keeps e λ_ _ h=>h).Du af ag;have n:=K h
 obtain⟨aa,ab,hbb⟩:(∃ar aj j,mY 356 (s.aX b a).1 (s.aX b a).2.1 (s.aX b a).2.2 d ar aj j (BW (s.aX b a) d) false 0)/\(∃ar aj j m,mY 357 (s.aX a b).1 (s.aX a b).2.1 (s.aX a b).2.2 d ar aj j (Cn (s.aX a b) d) m 0)/\
  (∀f,ν δ 358 #[lI (s.aX b a),lI (s.aX a b),I E d] f λm w'=>m=ξ (σ #[lI (uw (s.aX b a) (s.aX a b) d),lI (ux (s.aX b a) (s.aX a b) d),I E 0])/\bH f.heap.size f w'):=
  ⟨⟨_,_,_,MJ _ _ _ d ad R T⟩,⟨_,_,_,_,Hb _ _ _ d ae R T⟩,VY _ _ _ _ _ _ d ad ae R T⟩
 obtain⟨bL,bC,bE,aa⟩:=aa;obtain⟨bM,bD,bF,a6,ab⟩:=ab;have aw:=K aa;have ax:=K ab;have aZ:=K hbb;clear aa ab hbb;have a9:oO (uw (s.aX b a) (s.aX a b) d)=true:=ac5 _ _ d ad R T;have ba:oO (ux (s.aX b a) (s.aX a b) d)=true:=ac6 _ _ d ae R T;have aJ:je s b a d=if BW (s.aX b a) d&&Cn (s.aX a b) d then[(a,b,d)] else[]:=rfl;have aK:iS s b a d=zL s b a (uw (s.aX b a) (s.aX a b) d) (ux (s.aX b a) (s.aX a b) d):=rfl;generalize BW (s.aX b a) d=aH at*;generalize Cn (s.aX a b) d=aQ at*;generalize uw (s.aX b a) (s.aX a b) d=a1 at*;generalize ux (s.aX b a) (s.aX a b) d=a2 at*;rw[aJ,aK];clear aJ aK ad ae h;generalize s.aX b a=o at*;generalize s.aX a b=bv at*;obtain⟨br,bs,bt⟩:=o;obtain⟨bw,bx,bz⟩:=bv;obtain⟨G,J,L⟩:=a1;obtain⟨M,O,P⟩:=a2;unfold lI at*;simp only at*;have aO:=n.out.lt;have bI:g<w.heap.size:=aO g ((n.out.ak g).2 (.inl rfl));have bN:sb<w.heap.size:=aO sb ((n.out.ak sb).2 (by simp));have a5:=n.out.blk.cell 1;simp only[gz_] at a5;have V:Y w (((w.alloc (ζ #[H b,H a] 146)).alloc (ζ #[H a,H b] 146))) γ:=((Y.refl w γ).alloc _).alloc _;have t2:w.heap.size+1<((w.alloc (ζ #[H b,H a] 146)).alloc (ζ #[H a,H b] 146)).heap.size/\((w.alloc (ζ #[H b,H a] 146)).alloc (ζ #[H a,H b] 146)).cell? (U g 1 A)=N (ω (N sb))/\((w.alloc (ζ #[H b,H a] 146)).alloc (ζ #[H a,H b] 146)).cell? (U w.heap.size 0 A)=N (H b)/\((w.alloc (ζ #[H b,H a] 146)).alloc (ζ #[H a,H b] 146)).cell? (U w.heap.size 1 A)=N (H a)/\((w.alloc (ζ #[H b,H a] 146)).alloc (ζ #[H a,H b] 146)).cell? ⟨w.heap.size+1,0,A⟩=N (H a)/\((w.alloc (ζ #[H b,H a] 146)).alloc (ζ #[H a,H b] 146)).cell? ⟨w.heap.size+1,1,A⟩=N (H b):=by have B:=((θ.new w 146 #[H b,H a]).alloc (ζ #[H a,H b] 146));have au:θ ((w.alloc (ζ #[H b,H a] 146)).alloc (ζ #[H a,H b] 146)) (w.heap.size+1) 146 #[H a,H b]:=θ.dA _ _ _ _;exact⟨au.lt,(V.blk n.out.blk id).cell 1,B.cell 0,B.cell 1,au.cell 0,au.cell 1⟩
 have i:=K t2;have ah:=K V;clear t2 V;go_enter func309,ntmps309;go_upto_region 2 with fail
 generalize(w.alloc (ζ #[H b,H a] 146)).alloc (ζ #[H a,H b] 146)=f at*;go_cut [11] (λB c=>∃j,B=π (N (U j 0 A))/\f.heap.size<=j/\c.cell? (U j 3 A)=N (ι aH)/\Y f c γ)
 case first=>
  have bu:∀c,Y f c γ->(cw 94 (ω (N sb)) (Μ #[H b,H a]) false).run δ c= .ok (S br bs bt) c:=λc e=>av c (ah.out.trans e Η);have x:η (∀c,Y f c γ->(c.cell? (U g 1 A)=N (ω (N sb))/\c.cell? (U w.heap.size 0 A)=N (H b)/\c.cell? (U w.heap.size 1 A)=N (H a)/\Y f c γ)):=K λc e=>⟨az e i.out.2.1 id,az e i.out.2.2.1 id,az e i.out.2.2.2.1 id,e⟩
  go_region_held3 (λc=>c.cell? (U g 1 A)=N (ω (N sb))/\c.cell? (U w.heap.size 0 A)=N (H b)/\c.cell? (U w.heap.size 1 A)=N (H a)/\Y f c γ)
   ((refine x.out _ ?_;(repeat (first|with_reducible exact Y.refl _ _|with_reducible assumption|(with_reducible refine Y.drew ?_)|(with_reducible refine Y.alloc ?_ _)|(with_reducible refine uP ?_ ?_ _ _)|omega|(simp;omega)))))
   (first|(go_at_call 356;refine(aw.out _).mono ?_;rintro m k ⟨rfl,l⟩;have r:=Ol l (by assumption);have bB:=r.size;(first|(have Q:θ k f.heap.size 405 _:=Qu l;have al:=Qr Q;obtain⟨⟨bh,bi,bj,bk,bl⟩,bm,bn,bo,bp,bq⟩:=al)|skip)))
  all_goals
   go_wp2_with fail;go_meet;refine⟨_,rfl,?_,?_,?_⟩
   .omega
   .with_reducible first|exact Px _ _ _ _ _ _|exact Qk Q _ _ _ _ _
   .with_reducible first|exact r.alloc _|exact Qt r (Ο _)
 obtain⟨a3,rfl,aL,aE,aR⟩:=hcut;obtain⟨wA,rfl⟩:∃o,o=wc:=⟨wc,rfl⟩;have aB:=K av;have ai:=K aU;clear aw av aU;have aA:=K aE;have a7:=K aL;have p:=K aR;clear aE aL aR;go_upto_region 3 with fail
 go_cut [13] (λB c=>∃j,B=π (N (U j 0 A))/\wA.heap.size<=j/\c.cell? (U j 3 A)=N (ι aQ)/\Y wA c γ)
 case first=>
  have bA:∀c,Y wA c γ->(cw 94 (ω (N sb)) (Μ #[H a,H b]) false).run δ c= .ok (S bw bx bz) c:=λc e=>ai.out c ((ah.out.trans p.out Η).trans e Η);have x:η (∀c,Y wA c γ->(c.cell? (U g 1 A)=N (ω (N sb))/\c.cell? ⟨w.heap.size+1,0,A⟩=N (H a)/\c.cell? ⟨w.heap.size+1,1,A⟩=N (H b)/\Y wA c γ)):=K λc e=>⟨az e (az p.out i.out.2.1 id) id,az e (az p.out i.out.2.2.2.2.1 id) id,az e (az p.out i.out.2.2.2.2.2 id) id,e⟩
  go_region_held3 (λc=>c.cell? (U g 1 A)=N (ω (N sb))/\c.cell? ⟨w.heap.size+1,0,A⟩=N (H a)/\c.cell? ⟨w.heap.size+1,1,A⟩=N (H b)/\Y wA c γ)
   ((refine x.out _ ?_;(repeat (first|with_reducible exact Y.refl _ _|with_reducible assumption|(with_reducible refine Y.drew ?_)|(with_reducible refine Y.alloc ?_ _)|(with_reducible refine uP ?_ ?_ _ _)|omega|(simp;omega)))))
   (first|(go_at_call 357;refine(ax.out _).mono ?_;rintro m k ⟨rfl,l⟩;have r:=Ol l (by assumption);have bB:=r.size;(first|(have Q:θ k wA.heap.size 405 _:=Qu l;have al:=Qr Q;obtain⟨⟨bh,bi,bj,bk,bl⟩,bm,bn,bo,bp,bq⟩:=al)|skip)))
  all_goals
   go_wp2_with fail;go_meet;refine⟨_,rfl,?_,?_,?_⟩
   .omega
   .with_reducible first|exact Px _ _ _ _ _ _|exact Qk Q _ _ _ _ _
   .with_reducible first|exact r.alloc _|exact Qt r (Ο _)
 obtain⟨a4,rfl,aM,aF,ac⟩:=hcut;obtain⟨wB,rfl⟩:∃o,o=wc:=⟨wc,rfl⟩;clear ax;have bJ:=K aM;have aW:=K aF;have aV:=K (az ac aA.out id);have W:Y w wB γ:=(ah.out.trans p.out Η).trans ac Η;have ay:=K W;have ao:=K (n.out.keeps W λ_ _ h=>h);have u:Y f wB γ:=p.out.trans ac Η;have bu:=aB.out wB.drew W.drew;have bA:=ai.out wB.drew W.drew;have aG:=az u i.out.2.1 id;have bc:=u.size;have bd:=i.out.1;have am:w.heap.size≠sb:=by omega
 have an:w.heap.size+1≠sb:=by omega
 have aI:g≠sb:=(n.out.apart).2.1;have aD:a3≠sb/\a4≠sb:=by have:=a7.out;have:=p.out.size;omega
 have x:η (∀c,Y wB c (·=sb)->(c.cell? (U g 1 A)=N (ω (N sb))/\c.cell? (U w.heap.size 0 A)=N (H b)/\c.cell? (U w.heap.size 1 A)=N (H a)/\c.cell? ⟨w.heap.size+1,0,A⟩=N (H a)/\c.cell? ⟨w.heap.size+1,1,A⟩=N (H b))):=K λc e=>⟨az e aG aI,az e (az u i.out.2.2.1 id) am,az e (az u i.out.2.2.2.1 id) am,az e (az u i.out.2.2.2.2.1 id) an,az e (az u i.out.2.2.2.2.2 id) an⟩;clear aB ai aG aF aM ac W u am an aI bc bd aA
 have a0:η (∀k,bH wB.drew.heap.size wB.drew k->∃q y,(fB 94 (ω (N sb)) (Μ #[H b,H a]) (S G J L)).run δ k= .ok () q/\(fB 94 (ω (N sb)) (Μ #[H a,H b]) (S M O P)).run δ q= .ok () y/\
  aC iY y sb (put (put ms (b,a) (N (S G J L))) (a,b) (N (S M O P))) 18/\Y wB k (·=sb)/\Y wB q (·=sb)/\Y wB y (·=sb)):=K λk l=>by
  have ap:Y wB k γ:=(Y.refl wB γ).drew.trans (Y.of_below l γ) Η;have bf:=aC.keeps (F:=γ) ao.out.aX ap id;obtain⟨q,aS,bg,V⟩:=bf.store qT (t:=94) (e:=148) Jp (by unfold Χ;omega) (x:=(b,a)) ⟨jk ag,jk af⟩ (S G J L);obtain⟨y,aT,z,be⟩:=bg.store qT (t:=94) (e:=148) Jp (by unfold Χ;omega) (x:=(a,b)) ⟨jk af,jk ag⟩ (S M O P);have aq:Y wB q (·=sb):=ap.any.trans V λ_ h=> .inl h;exact⟨q,y,aS,aT,z,ap.any,aq,aq.trans be λ_ h=> .inl h⟩
 go_upto_region 4 with fail
 go_cut [] (λc=>aC iY c sb (put (put ms (b,a) (N (S G J L))) (a,b) (N (S M O P))) 18/\Y wB c (·=sb))
 case first=>
  go_region_held3 (λc=>c.cell? (U g 1 A)=N (ω (N sb))/\c.cell? (U w.heap.size 0 A)=N (H b)/\c.cell? (U w.heap.size 1 A)=N (H a)/\c.cell? ⟨w.heap.size+1,0,A⟩=N (H a)/\c.cell? ⟨w.heap.size+1,1,A⟩=N (H b))
   ((refine x.out _ ?_;(with_reducible first|assumption|exact(Y.refl _ _).drew)))
   (first|(go_at_call 358;refine(aZ.out _).mono ?_;rintro m k ⟨rfl,l⟩;obtain⟨q,y,aS,aT,z,bK,aq,t⟩:=a0.out k l))
  all_goals
   go_wp2_with fail;go_meet;exact⟨z,t⟩
 obtain⟨z,t⟩:=hcut;obtain⟨wD,rfl⟩:∃o,o=wc:=⟨wc,rfl⟩;have bG:=az t aV.out aD.1;have a6:=az t aW.out aD.2;have X:=K ((fO.adt ao.out aP aN a8 (G,J,L) (M,O,P) a9 ba z t));have C:=K (ay.out.any.trans t λo bb=> .inl (bb▸(n.out.ak sb).2 (by simp)));clear z t x ao ay;cases aH<;>cases aQ
 all_goals
  go_wp2;go_ret
 .exact⟨_,rfl,db _ _ _ _,⟨_,_,_,_,_,_,_,_,X.out⟩,C.out⟩
 .exact⟨_,rfl,db _ _ _ _,⟨_,_,_,_,_,_,_,_,X.out⟩,C.out⟩
 .exact⟨_,rfl,db _ _ _ _,⟨_,_,_,_,_,_,_,_,X.out⟩,C.out⟩
 exact⟨_,rfl,⟨rfl,.inr ⟨_,1,_,rfl,C.out.size,θ.new _ _ _,Ο _,by unfold Χ;omega,rfl,rfl⟩⟩,(fG g _).keeps ⟨_,_,_,_,_,_,_,_,X.out⟩ ((Y.refl _ γ).alloc _) (λ_ _ h=>h),C.out.alloc _⟩
def mg(s:aY)(e c:BA)(d:Option BA):aY:= {s with aR:=λa b=>if a=e/\b=c then d else s.aR a b}
section
variable {w w':Z} {g:Nat} {s:aY} {F:Bs} {ub uc sb nb vb:Nat} {ms mn:BA×BA->Option ε} {mv:BA->Option ε}
theorem fO.IL(f:fO w g s F ub uc sb nb vb ms mn mv){e c:BA}(z:e∈us)(u:c∈us)(y:e≠c)(h:Option BA)(x:∀j,h=N j->j.size<=40){B:Nat}(A:aC iY w' nb (put mn (e,c) (h.map H)) B)(m:Y w w' (·=nb)):fO w' g (mg s e c h) F ub uc sb nb vb ms (put mn (e,c) (h.map H)) mv:=by
 have a:=f.apart
 have p:∀a b,put mn (e,c) (h.map H) (a,b)=((mg s e c h).aR a b).map H:=λa b=>by
  rw[zH];unfold mg;simp only;by_cases d:a=e/\b=c
  .rw[ahM d,ahM d]
  rw[WB d,WB d];exact f.name a b
 have q:∀a b,((mg s e c h).aR a b).isSome=true->a∈us/\b∈us:=λa b k=>by
  unfold mg at k;simp only at k;by_cases d:a=e/\b=c
  .exact⟨d.1▸z,d.2▸u⟩
  rw[WB d] at k;exact f.ze a b k
 exact {f with
  blk:=m.blk f.blk (by omega)
  own:=aD f.own m (λb t o=>by injection t with r;simp only at r;omega)
  aX:=f.aX.keeps m (by omega)
  aR:=A.tight qT Io λn _ l=>Pk (q n.1 n.2 (by rw[p] at l;simpa using l)).1 (q n.1 n.2 (by rw[p] at l;simpa using l)).2
  oU:=f.oU.keeps m (by omega)
  ze:=q
  name:=p
  small:=λa b j i=>by
   unfold mg at i;simp only at i;by_cases d:a=e/\b=c
   .rw[ahM d] at i;exact x j i
   .rw[WB d] at i;exact f.small a b j i
  ca:=λa=>by unfold mg;simp only;rw[WB (λo=>y (o.1.symm.trans o.2))];exact f.ca a}
end
def jG(w:Z)(a:Nat)(v:ε):Prop:=w.cell? (U a 0 A)=N v
theorem jG.keeps{w w':Z}{F:Bs}{a:Nat}{v:ε}(b:jG w a v)(d:Y w w' F)(c:¬F a):jG w' a v:=az d b c
theorem aa6{w:Z}{g:Nat}{s:aY}{F:Bs}(c:eQ w g s F){k i j:BA}(t:k∈us)(r:i∈us)(G:k≠i)(E:j.size<=40){d e f h:Nat}(o:¬F d/\¬F e/\¬F f/\¬F h)(P:jG w d (H j))(Q:jG w e (π (N (U g 0 A))))(R:jG w f (H k))(S:jG w h (H i)):ν δ 314 #[π (N (U d 0 A)),π (N (U e 0 A)),π (N (U f 0 A)),π (N (U h 0 A))] w λa w'=>∃v,a=ξ v/\qL w g (mg s k i (N j)) F [] v w':=by
 obtain⟨ub,uc,sb,nb,vb,ms,mn,mv,c⟩:=c;have M:=gH _ t;have L:=gH _ r;obtain⟨p,J,y,u⟩:=c.aR.drew.store qT (t:=95) (e:=9) DX (by unfold Χ;omega) (x:=(k,i)) ⟨jk M,jk L⟩ (H j);have x:Y w p (·=nb):=(Y.refl w _).drew.trans u λ_ c=> .inl c;have C:=K (c.IL t r G (N j) (λO a=>by injection a with a;exact a▸E) y x);have z:=K (x.mono (G:=F) λO I=> .inl (I▸(c.ak nb).2 (by simp)));simp only[iY] at J;have q:=c.blk.cell 2;simp only[gz_] at q;have n:nb≠d/\nb≠e/\nb≠f/\nb≠h:=by have hF:=(c.ak nb).2 (by simp);exact⟨λa=>o.1 (a▸hF),λa=>o.2.1 (a▸hF),λa=>o.2.2.1 (a▸hF),λa=>o.2.2.2 (a▸hF)⟩
 have l:η (nb≠g/\nb≠d/\nb≠e/\nb≠f/\nb≠h):=K ⟨λa=>c.apart.2.2.1 a.symm,n.1,n.2.1,n.2.2.1,n.2.2.2⟩;unfold jG at*;have B:η (∀b,Y w b (·=nb)->(b.cell? (U g 2 A)=N (ω (N nb))/\b.cell? (U d 0 A)=N (H j)/\b.cell? (U e 0 A)=N (π (N (U g 0 A)))/\b.cell? (U f 0 A)=N (H k)/\b.cell? (U h 0 A)=N (H i))):=K λb m=>⟨az m q l.out.1.symm,az m P l.out.2.1.symm,az m Q l.out.2.2.1.symm,az m R l.out.2.2.2.1.symm,az m S l.out.2.2.2.2.symm⟩;have T:Y w w.drew (·=nb):=(Y.refl w _).drew;clear y u c;go_enter func314,ntmps314;go_upto_region 1 with fail
 go_cut [] (λb=>b=p)
 case first=>
  go_region_held3 (λb=>b.cell? (U g 2 A)=N (ω (N nb))/\b.cell? (U d 0 A)=N (H j)/\b.cell? (U e 0 A)=N (π (N (U g 0 A)))/\b.cell? (U f 0 A)=N (H k)/\b.cell? (U h 0 A)=N (H i)) ((refine B.out _ ?_;with_reducible assumption)) (fail)
  all_goals
   go_wp2_with fail;go_meet;rfl
 subst hcut;go_wp2;go_ret;exact⟨_,rfl,db _ _ _ _,⟨_,_,_,_,_,_,_,_,C.out⟩,z.out⟩
theorem sP{w:Z}{a c:Nat}{d:aQ}{h:Nat}{v:ε}{f:Nat}{g:List ε}(e:w.ownsRow a d h v f g)(i:c<=a):w.ownsRow c d h v f g:=by
 refine⟨e.1,?_⟩;obtain hn|⟨b,cap,cur,e1,hbg,rest⟩:=e.2
 .exact .inl hn
 exact .inr ⟨b,cap,cur,e1,aJ i hbg,rest⟩
def oz(s:aY)(b a:BA)(c:Int):aY:=if c=1/\(s.aR b a).isSome=false then mg s b a (N (D #[])) else s
theorem qL.from{w d e:Z}{g:Nat}{s:aY}{F:Bs}{c:List Tl}{v:ε}(b:Y w d F)(a:qL d g s F c v e):qL w g s F c v e:=
 ⟨sP a.1 b.size,a.2.1,b.trans a.2.2 λ_ a=> .inl a⟩
theorem UI{w:Z}{g:Nat}{s:aY}{F:Bs}(d:eQ w g s F){c b:BA}(C:c∈us)(y:b∈us)(J:c≠b)(f:Int)(af:1<=f)(ag:f<=4){i j k l:Nat}(z:¬F i/\¬F j/\¬F k/\¬F l)(ai:jG w i (π (N (U g 0 A))))(aj:jG w j (H c))(al:jG w k (H b))(am:jG w l (I E f)):ν δ 307 #[π (N (U i 0 A)),π (N (U j 0 A)),π (N (U k 0 A)),π (N (U l 0 A))] w λa w'=>∃v,a=ξ v/\qL w g (iS (oz s c b f) c b f) F (je s c b f) v w':=by
 have aa:=gH _ C;have X:=gH _ y;have p:=K (GB d aa X);unfold jG at*;by_cases n:f=1/\(s.aR c b).isSome=false
 .have r:oz s c b f=mg s c b (N (D #[])):=ahM n;obtain⟨rfl,B⟩:=n
  have Q:oE s c b=(D #[]):=by
   unfold oE;cases t:s.aR c b with
   |none=>rfl
   |some ad=>rw[t] at B;cases B
  rw[B,Q] at p;rw[r];clear r B Q;obtain⟨ub,uc,sb,nb,vb,ms,mn,mv,d⟩:=d;have m:nb≠i/\nb≠j/\nb≠k/\nb≠l:=by have hF:=(d.ak nb).2 (by simp);exact⟨λa=>z.1 (a▸hF),λa=>z.2.1 (a▸hF),λa=>z.2.2.1 (a▸hF),λa=>z.2.2.2 (a▸hF)⟩
  have o:η (nb≠g/\nb≠i/\nb≠j/\nb≠k/\nb≠l):=K ⟨λa=>d.apart.2.2.1 a.symm,m.1,m.2.1,m.2.2.1,m.2.2.2⟩;obtain⟨O,ah,T,S⟩:=d.aR.drew.store qT (t:=95) (e:=9) DX (by unfold Χ;omega) (x:=(c,b)) ⟨jk aa,jk X⟩ (H (D #[]));have L:Y w O (·=nb):=(Y.refl w _).drew.trans S λ_ d=> .inl d;have R:=d.IL C y J (N (D #[])) (λad a=>by injection a with a;exact a▸(by decide)) T L;have ae:=K (L.mono (G:=F) λad t=> .inl (t▸(d.ak nb).2 (by simp)));have x:=K (Bu ⟨_,_,_,_,_,_,_,_,R⟩ C y J 1 (by omega) (by omega));simp only[iY] at ah;have P:=d.blk.cell 2;simp only[gz_] at P;have M:η (∀e,Y w e (·=nb)->(e.cell? (U g 2 A)=N (ω (N nb))/\e.cell? (U l 0 A)=N (I E 1)/\e.cell? (U i 0 A)=N (π (N (U g 0 A)))/\e.cell? (U j 0 A)=N (H c)/\e.cell? (U k 0 A)=N (H b))):=K λe u=>⟨az u P o.out.1.symm,az u am o.out.2.2.2.2.symm,az u ai o.out.2.1.symm,az u aj o.out.2.2.1.symm,az u al o.out.2.2.2.1.symm⟩;have ap:Y w w.drew (·=nb):=(Y.refl w _).drew;clear T S d R;go_enter JO,ntmps307;go_wp2_with fail;refine p.out.mono ?_;rintro a ac ⟨rfl,rfl⟩;go_upto_region 3 with fail
  go_cut [] (λe=>e=O)
  case first=>
   go_region_held3 (λe=>e.cell? (U g 2 A)=N (ω (N nb))/\e.cell? (U l 0 A)=N (I E 1)/\e.cell? (U i 0 A)=N (π (N (U g 0 A)))/\e.cell? (U j 0 A)=N (H c)/\e.cell? (U k 0 A)=N (H b)) ((refine M.out _ ?_;with_reducible assumption)) (fail)
   all_goals
    go_wp2_with fail;go_meet;rfl
  subst hcut;obtain⟨ar,au,y0,aq,av⟩:=M.out _ L;go_wp2_with fail;refine x.out.mono ?_;rintro a ab ⟨v,rfl,h⟩;obtain⟨V,W,rfl⟩:=cC h.1;have q:=K (h.from ae.out);clear h;go_wp2;go_ret;exact⟨_,rfl,q.out⟩
 have r:oz s c b f=s:=WB n;rw[r];clear r;have x:=K (Bu d C y J f af ag);by_cases G:f=1
 .subst G
  have m:(s.aR c b).isSome=true:=by
   cases t:(s.aR c b).isSome
   .exact ahN ⟨rfl,t⟩ n
   rfl
  rw[m] at p;clear m n d;generalize oE s c b=nm at*;go_enter JO,ntmps307;go_wp2_with fail;refine p.out.mono ?_;rintro a ac ⟨rfl,rfl⟩;go_wp2_with fail;refine x.out.mono ?_;rintro a ab ⟨v,rfl,h⟩;obtain⟨V,W,rfl⟩:=cC h.1;have q:=K h;clear h;go_wp2;go_ret;exact⟨_,rfl,q.out⟩
 have ao:(f==1)=false:=ahO G;clear n d G;generalize oE s c b=nm at*;generalize(s.aR c b).isSome=an at*;go_enter JO,ntmps307;go_wp2_with fail;refine p.out.mono ?_;rintro a ac ⟨rfl,rfl⟩;go_wp2_with fail;refine x.out.mono ?_;rintro a ab ⟨v,rfl,h⟩;obtain⟨V,W,rfl⟩:=cC h.1;have q:=K h;clear h;go_wp2;go_ret;exact⟨_,rfl,q.out⟩
section
open Go.Sort
theorem xz:prog.underlying 360=N (.map 9 9):=by kernel_rfl
structure kH (w:Z) (g n:Nat) (F:Bs) (mb:Nat) (m:BA->Option ε) (ov:ε) (xs:List BA):Prop where
 blk:θ w g 362 #[ω (N mb),ov,I E 6]
 map:aC bR w mb m 6
 own:w.ownsRow 0 9 1 ov n (xs.map H)
 ok:∀x∈xs,x.size<=Χ
 Β:∀x v,m x=N v->gM v
 mem:∀x,bR.ok x->(m x).isSome=true->x∈xs
 ne:g≠mb
 apart:∀b,ov.ownBlock=N b->b≠g/\b≠mb
 ak:∀k,F k↔(k=g\/k=mb\/ov.ownBlock=N k)
 le:n<=6
def qC(g:Z)(b e:Nat)(a:Bs):Prop:=∃d c f h,kH g b e a d c f h
variable{w n G:Z}{x i t:ε}{y k d M:Nat}{j:Bs}{a:List ε}{b:Option ay}{f:Bool}{p L:BA}{q:Array ε}{u:aQ}{X:aI}
theorem kH.stay{w':Z}{f:BA->Option ε}{g:List BA}(a:kH w y k j d f x g)(b:∀c,j c->w'.heap[c]? =w.heap[c]?):kH w' y k j d f x g:=
 ⟨(b y ((a.ak y).2 (.inl rfl))).trans a.blk,a.map.same (b d ((a.ak d).2 (.inr (.inl rfl)))),pY a.own λe h=>b e ((a.ak e).2 (.inr (.inr h))),a.ok,a.Β,a.mem,a.ne,a.apart,a.ak,a.le⟩
theorem kH.lt{w:Z}{F:Bs}{e:BA->Option ε}{f:List BA}(a:kH w y k F d e x f):∀b,F b->b<w.heap.size:=by
 intro b c;obtain rfl|rfl|c:=(a.ak b).1 c
 .exact a.blk.lt
 .exact a.map.lt
 exact ie a.own c
theorem kH.keeps{w f:Z}{F G:Bs}{e:BA->Option ε}{g:List BA}(b:kH w y k F d e x g)(i:Y w f G)(h:∀a,F a->¬G a):kH f y k F d e x g:=
 b.stay λa c=>i.block a (b.lt a c) (h a c)
theorem qP(d i:Nat):ju λj h=>qC j d i h where
 lt a k hk:=by
  obtain⟨c,e,f,g,a⟩:=a;obtain rfl|rfl|hk:=(a.ak k).1 hk
  .exact a.blk.lt
  .exact a.map.lt
  .exact ie a.own hk
 stay a he:=by
  obtain⟨c,e,f,g,a⟩:=a;refine⟨c,e,f,g,⟨(he d ((a.ak d).2 (.inl rfl))).trans a.blk,a.map.same (he c ((a.ak c).2 (.inr (.inl rfl)))),?_,a.ok,a.Β,a.mem,a.ne,a.apart,a.ak,a.le⟩⟩;refine⟨a.own.1,?_⟩;obtain hn|⟨b,cap,cur,e1,hbg,hgg,rest⟩:=a.own.2
  .exact .inl hn
  .exact .inr ⟨b,cap,cur,e1,hbg,(he b ((a.ak b).2 (.inr (.inr (by rw[e1];rfl))))).trans hgg,rest⟩
theorem Wl(a:Z):ν δ 242 #[I E 6] a λg f=>∃e d,g=ξ (π (N (U e 0 A)))/\qC f e 0 d/\Ψ a f γ d:=by
 have i:= @run_makeMap δ;go_enter func242,ntmps242;go_wp2;all_goals go_ret
 all_goals
  refine⟨a.heap.size+1,λc=>c=a.heap.size+1\/c=a.heap.size,rfl,⟨a.heap.size,λ_=>A,V A 0 0,[],⟨θ.dA _ _ _ _,((aC.made bR a).alloc _).mono (by omega),db _ _ _ _,nofun,nofun,nofun,by omega,nofun,λc=>⟨λb=>b.elim .inl λb=> .inr (.inl b),λb=>b.elim .inl λb=>b.elim .inr nofun⟩,by omega⟩⟩,⟨(Y.refl a γ).alloc _ |>.alloc _,λc h=> .inr (by omega)⟩⟩
theorem Nx(a:qC w y k j):ν δ 388 #[π (N (U y 0 A))] w λd f=>d=ξ (ι ((k:Int)==6))/\∃e,f=w.drewN e:=by
 obtain⟨l,i,m,n,a⟩:=a;obtain⟨g,h,rfl⟩:=eX a.own;have b:=a.blk.cell 1;have c:=a.blk.cell 2;simp at b c;clear a;go_enter func388,ntmps388;go_wp2;go_quiet (fail)
 go_wp2;all_goals(go_ret;exact⟨rfl,_,rfl⟩)
theorem PD{b:BA->Option ε}{o:List BA}(e:kH w y k j d b x o)(a:BA)(m:a.size<=Χ):ν δ 401 #[π (N (U y 0 A)),H a] w λf n=>(∃v,f=ξ (σ #[v,ι (b a).isSome]))/\w=n:=by
 have l:=e.blk.cell 0;simp at l;have h:=e.map.look_ok dG (t:=360) (e:=9) xz (Ed w) (x:=a) m;simp only[bR] at h
 have hv:∃c,(b a).getD (H (D #[]))=H c:=by
  cases f:b a with
  |none=>exact⟨_,rfl⟩
  |some v=>obtain⟨c,rfl,_⟩:=e.Β a v f;exact⟨c,rfl⟩
 obtain⟨c,g⟩:=hv;rw[g] at h;clear g e;generalize(b a).isSome=i at*;go_enter func401,ntmps401;go_wp2;all_goals exact Ω (v:=σ #[H c,ι i]) (by simp[ag,results401,go_sem]) rfl ⟨⟨_,rfl⟩,rfl⟩
theorem Oc(d c:BA)(a:Nat)(b:Z)(e:b.cell? (U a 0 A)=N (H d)):FnGives δ 402 #[π (N (U a 0 A))] #[H c] (ι (c.toList==d.toList)) b:=by show ν δ 402 #[H c,π (N (U a 0 A))] b _;go_enter func402,ntmps402;go_wp2;all_goals(go_ret;exact⟨rfl,0,rfl⟩)
theorem Z5(b:BA)(a:Nat)(c:Z)(f:a<c.heap.size)(h:c.cell? (U a 0 A)=N (H b)):PredAt δ 402 #[π (N (U a 0 A))] H (λd=>d.toList==b.toList) c:=
 λe d g=>Oc b d a e ((g.cell (p:=(U a 0 A)) f).trans h)
theorem Z6(b:BA)(a blk h:Nat)(c:Z)(e:a<c.heap.size)(g:a≠blk)(f:c.cell? (U a 0 A)=N (H b)):PredOver δ 402 #[π (N (U a 0 A))] H (λd=>d.toList==b.toList) blk 0 h c:=
 λk j i d _=>Oc b d a _ (by unfold sortWorld;rw[cell?_grow _ _ _ (by show a<(putRow _ _ _ _ _).heap.size;rw[size_putRow];exact e),cell?_putRow_other _ _ blk 0 _ _ (Or.inl g)];exact f)
theorem L9{h:BA->Option ε}{n:List BA}(b:kH w y k j d h x n)(a:BA)(l:a.size<=Χ)(i:(h a).isSome=false):ν δ 387 #[π (N (U y 0 A)),H a] w λc m=>c=ξ (ι false)/\Y w m γ:=by have g:Y w (w.alloc (ζ #[H a] 9)) γ:=(Y.refl w γ).alloc _;have e:=b.keeps g (λ_ _ b=>b);have f:=K (PD e a l);rw[i] at f;clear e b;go_enter func387,ntmps387;go_wp2_with fail;refine f.out.mono ?_;rintro c o ⟨⟨v,rfl⟩,rfl⟩;go_wp2;all_goals(go_ret;exact⟨rfl,g⟩)
theorem V9{s:BA->Option ε}{g:List BA}(a:kH w y k j d s x g)(e:BA)(q:e.size<=Χ)(F:(s e).isSome=true):ν δ 387 #[π (N (U y 0 A)),H e] w λc O=>c=ξ (ι true)/\Ψ w O j j/\∃ai,kH O y (g.filter λb=> !(b.toList==e.toList)).length j d (put s e A) ai (g.filter λb=> !(b.toList==e.toList)):=by
 have J:Y w (w.alloc (ζ #[H e] 9)) γ:=(Y.refl w γ).alloc _;have i:=a.keeps J (λ_ _ a=>a);have G:=K (PD i e q);rw[F] at G;have I:e∈g:=a.mem e q F;obtain⟨n,aj,ag,m⟩:=i.map.drew.drop dG (t:=360) (e:=9) xz (x:=e) q 0;simp only[bR] at aj;have av:=i.map.lt;have S:=(θ.new w 9 #[H e]).cell 0;simp at S;go_enter func387,ntmps387;go_wp2_with fail;refine G.out.mono ?_;rintro c ay ⟨⟨v,rfl⟩,rfl⟩;have R:=i.blk.cell 0;simp at R;have ap:=i.blk.lt;have B:=m.blk (g:=y) i.blk.drew i.ne;have ah:n.ownsRow 0 9 1 x k (g.map H):=aD i.own.drew m λh l=>(i.apart h l).2;have P:n.cell? (U w.heap.size 0 A)=N (H e):=by rw[(m.blk (g:=w.heap.size) (θ.new w 9 #[H e]).drew (by have:=a.map.lt;omega)).cell];rfl
 have Q:w.heap.size<n.heap.size:=dQ (by simp) m.size
 have ad:x≠V A 0 0:=by
  rintro rfl;obtain⟨_,ab⟩|⟨_,_,_,c,_⟩:=a.own.2
  .have:=a.own.1;simp[ab] at this;rw[this] at I;cases I
  cases c
 have X:=K (Mv g ah ad (λb=>b.toList==e.toList) 402 #[π (N (U w.heap.size 0 A))] (enters_of func402 (by kernel_rfl) rfl) (Z5 e w.heap.size n Q P) (λblk l=>Z6 e w.heap.size blk k n Q (λc=>by have:=ie a.own l;omega) P));have T:=B.cell 1;simp at T;have aw:=a.map.lt;have o:=a.apart;have an:=a.blk.lt;have au:∀h,x.ownBlock=N h->h<w.heap.size:=λh l=>ie a.own l;have ac:∃u C,x=V u k C:=eX a.own;obtain⟨u,C,rfl⟩:=ac;go_wp2_with fail;go_region
 go_wp2_with fail;refine X.out.mono ?_;rintro c al ⟨ax,rfl,M,r,t⟩;have p:=r.blk B (λc=>(o _ c).1 rfl);have am:=p.frozen 1;have W:=p.cell 1;simp at W;obtain⟨z,E,rfl⟩:=eX M;go_wp2;all_goals go_ret
 all_goals
  have aa:j y:=(a.ak y).2 (.inl rfl);have kk:=(((J.drew.any (F:=j)).trans m λb c=> .inl ((a.ak b).2 (.inr (.inl c)))).trans r λb c=> .inl ((a.ak b).2 (.inr (.inr c)))).χ (p:=(U y 1 A)) (.inl aa) (V z (List.filter (λb=> !b.toList==e.toList) g).length E);have L:=(Y.refl al (·=y)).χ (p:=(U y 1 A)) (.inl rfl) (V z (List.filter (λb=> !b.toList==e.toList) g).length E);have ar:g.length=k:=by simpa using a.own.1
  have ao:=jo (λb:BA=> !b.toList==e.toList) g;have aq:=a.le;refine⟨rfl,⟨kk,λ_ a=> .inl a⟩,_,⟨(p.χ 1 _).to (by simp),(ag.keeps r λc=>(o _ c).2 rfl).keeps L λc=>a.ne c.symm,aD M L λh l=>(o h (t▸l)).1,λb f=>a.ok b (dE.1 f).1,λb v f=> ?_,λb ae f=> ?_,a.ne,λh l=>o h (t▸l),λaf=>by rw[t];exact a.ak af,by omega⟩⟩
  .by_cases c:b=e
   .subst c;rw[dJ] at f;cases f
   rw[dI _ _ _ _ c] at f;exact a.Β b v f
  .by_cases c:b=e
   .subst c;rw[dJ] at f;cases f
   rw[dI _ _ _ _ c] at f;exact dE.2 ⟨a.mem b ae f,by simpa using(Lib.bytes_beq_false_iff b e).2 c⟩
end
variable{w n G:Z}{x i t:ε}{y k d M:Nat}{j:Bs}{a:List ε}{b:Option ay}{f:Bool}{p L:BA}{q:Array ε}{u:aQ}{X:aI}
theorem aag(a:Y w n j)(b:w.heap.size<=y):Y w (n.setCell (U y k A) x) j:=a.χ (p:=(U y k A)) (.inr b) x
def vU(b:List UInt8):Array ε:=(b.map λa=>I bh (a.toNat:Int)).toArray
theorem LU(b:List UInt8)(a:Nat)(c:a<b.length):(vU b)[a]? =N (I bh ((b[a]).toNat:Int)):=by unfold vU;simp only[Ρ,ml];rw[cT c];rfl
theorem aeM(d:Int)(j:0<=d)(B:d<18446744073709551616)(c:Z):ν δ 315 #[I .u64 d] c λp w=>(∃m:BA,p=ξ (H m)/\m.size=13)/\Y c w γ:=by
 have n:η (∀g (b:List UInt8),b.length=13->θ g c.heap.size 412 (vU b)->(convert 113 9 (V (N (U c.heap.size 0 A)) 13 13)).run δ g= .ok (H (D b.toArray)) g):=K λg b e s=>by have:=run_convert_bytes_back (P:=δ) g 113 9 5 ⟨c.heap.size,0,A⟩ 13 b iZ sZ lj (λk t=>by rw[WideShapes.add_plain,eP,s.cell k,LU b k t]);rw[e] at this;exact this
 go_enter func315,ntmps315;go_wp2;go_loopw [5] (λi wr=>∃a:Nat,a<=13/\i=I E a/\Y c wr γ/\∃b:List UInt8,b.length=13/\θ wr c.heap.size 412 (vU b)) (λi _=>13-(aB i).toNat)
 case atStart=>exact⟨0,by omega,rfl,(Y.refl c γ).alloc _,qz 13 0,by simp,θ.new _ _ _⟩
 obtain⟨a,F,rfl,l,b,e,f⟩:=hrel;by_cases G:a<13
 .have J:(a:Int)<13:=by omega
  have C:0<=bits qm IntKind.u64 (d/2^(5*a)) 31/\bits qm IntKind.u64 (d/2^(5*a)) 31<32:=by have q:0<=d/2^(5*a):=Int.ediv_nonneg j (Int.le_of_lt (Int.pow_pos (by decide)));have y:d/2^(5*a)<=d:=Int.ediv_le_self _ j;rw[u64_and _ _ q (by omega) (by decide) (by decide)];have:= @Nat.and_le_right (d/2^(5*a)).toNat 31;simp only[Int.reduceToNat];omega
  have z:=f.frozen (12-a);have r:=f.cell (12-a);rw[LU b _ (by omega)] at r;have u:η (∀h:UInt8,∃b:List UInt8,b.length=13/\θ (wr.setCell ⟨c.heap.size,12-a,A⟩ (I bh (h.toNat:Int))) c.heap.size 412 (vU b)):=K λh=>⟨b.set (12-a) h,by simp[e],(f.χ (12-a) _).to (by unfold vU;simp[List.map_set])⟩;clear f;go_wp2;exact⟨⟨a+1,by omega,by go_num,aag l (Ο _),u.out _⟩,by simp[aB];omega⟩
 obtain rfl:a=13:=by omega
 have o:=K (n.out wr b e f);have e:=K e;clear f;have x:=o.out;go_wp2;go_ret;exact⟨⟨_,rfl,by simp[ByteArray.size,e.out]⟩,l⟩
def eU(g:Z)(v:ε)(b:List BA):Prop:=
 ∃c f,v=V c b.length f/\b.length<=1000000/\(c=A->b=[])/\∀a,c=N a->a.spot=A/\∀d e,b[d]? =N e->g.cell? ⟨a.block,a.off+d,A⟩=N (H e)
theorem eU.dw{B:Nat}{v:ε}{l:List BA}(f:w.ownsRow B 9 1 v l.length (l.map H))(d:l.length<=1000000):eU w v l:=by
 obtain⟨rfl,c⟩|⟨o,n,e,rfl,p,g,r,q,s,i⟩:=f.2
 .exact⟨A,0,by rw[c],d,λ_=>List.length_eq_zero_iff.1 c,nofun⟩
 refine⟨_,_,rfl,d,nofun,λm b=> ?_⟩;injection b with b;subst b;refine⟨rfl,λj k h=> ?_⟩;have a:(e.toList.take (l.length*1))[j]? =N (H k):=by rw[i];simp[h]
 rw[List.getElem?_take] at a;split at a
 .simpa[fN,g] using a
 cases a
def du(a:List BA)(b:BA):Bool:=a.any λc=>b.toList==c.toList
theorem Zb{a:List BA}(b:du (a.take y) p=false)(c:a[y]? =N L)(d:(p.toList==L.toList)=false):du (a.take (y+1)) p=false:=by unfold du at b⊢;rw[List.take_add_one,c,List.any_append,b];simpa using d
theorem Y'{a:List BA}(b:a[y]? =N L)(c:(p.toList==L.toList)=true):du a p=true:=by unfold du;rw[List.any_eq_true];exact⟨L,ln b,c⟩
theorem ZM{a:List BA}(n:eU w x a)(d:BA):ν δ 117 #[x,H d] w λm t=>(∃c:Int,m=ξ (I E c)/\(0<=c↔du a d=true))/\t=w:=by
 obtain⟨s,B,rfl,F,j,f⟩:=n;cases s with
 |none=>
  have p:=j rfl;subst p;go_enter func117,ntmps117;go_wp2;go_loopw [5,8] (λ_ c wr=>c=I E 0/\wr=w) (λ_ _ _=>0)
  case atStart=>exact⟨rfl,rfl⟩
  obtain⟨rfl,rfl⟩:=hrel;go_wp2;go_ret;exact⟨⟨_,rfl,by simp[du]⟩,rfl⟩
 |some l=>
  obtain⟨y,z,G⟩:=l;obtain⟨k,g⟩:=f _ rfl;simp only at k g;subst k;have f:=K g;clear j g;go_enter func117,ntmps117;go_wp2;go_loopw [5,8] (λ_ c wr=>∃b:Nat,b<=a.length/\c=I E b/\wr=w/\du (a.take b) d=false) (λ_ c _=>a.length-(aB c).toNat)
  case atStart=>exact⟨0,by omega,rfl,rfl,by simp[du]⟩
  obtain⟨b,C,rfl,rfl,r⟩:=hrel;by_cases i:b<a.length
  .have q:(b:Int)<a.length:=by omega
   have J:=f.out b _ (cT i);have e:=cT i;generalize a[b]=u at*;have e:=K e;cases h:d.toList==u.toList with
   |true=>have o:=K (Y' e.out h);go_wp2;go_ret;exact⟨⟨_,rfl,by rw[o.out];simp⟩,rfl⟩
   |false=>have hF:=K (Zb r e.out h);go_wp2;exact⟨⟨b+1,by omega,by go_num,trivial,hF.out⟩,by simp[aB];omega⟩
  have hF:du a d=false:=by rw[<-List.take_length (l:=a)];rwa [show a.length=b from by omega]
  have q:¬(b:Int)<a.length:=by omega
  go_wp2;go_ret;exact⟨⟨_,rfl,by simp⟩,rfl⟩
theorem yY{b:List BA}(d:eU w x b)(a:BA):ν δ 73 #[x,H a] w λc f=>c=ξ (ι (du b a))/\f=w:=by have e:=K (ZM d a);obtain⟨j,g,rfl,_⟩:=d;go_enter func73,ntmps73;go_wp2_with fail;refine e.out.mono ?_;rintro c k ⟨⟨i,rfl,h⟩,rfl⟩;go_wp2;go_ret;refine⟨lc ?_,rfl⟩;cases du b a<;>simp_all
def lw(g:Z)(v:ε)(a:List Int):Prop:=
 (∀b∈a,0<=b/\b<18446744073709551616)/\∃e d,v=V e a.length d/\a.length<=d/\a.length<=2000/\(e=A->a=[]/\d=0)/\∀c,e=N c->c.spot=A/\∀f b,a[f]? =N b->g.cell? ⟨c.block,c.off+f,A⟩=N (I .u64 b)
def Tf(h:Z)(f:List Int)(e:List BA)(d:aI)(g:Z):Prop:=
 ∃(b:BA) (c:Nat) (a:Int),d=ξ (σ #[H b,I E c,I E a])/\c<=f.length/\(a=0\/a=14)/\(a=0->b.size=13/\du e b=false)/\Y h g γ
theorem aeL{l:List Int}{known:List BA}(d:lw w x l)(r:eU w i known)(f:∀p,Y w p γ->eU p i known):ν δ 252 #[x,i,I E 3] w (Tf w l known):=by
 obtain⟨h,H,Q,rfl,R,T,g,e⟩:=d;go_enter func252,ntmps252;go_wp2;obtain⟨b,hm,hm1,hm3⟩:∃b:Nat,min (l.length:Int) (min (max 3 1) 100)=(b:Int)/\b<=l.length/\b<=3:=⟨min l.length 3,by omega,by omega,by omega⟩;rw[hm,Int.toNat_natCast,show max (b:Int) 0=(b:Int) from by omega];have f:=K f;have h:=K h;have e:=K e;have g:=K g;clear hm r;go_loopw [22] (λk wr=>∃a:Nat,a<=b/\k=I E a/\Y w wr γ) (λk _=>b-(aB k).toNat)
 case atStart=>exact⟨0,by omega,rfl,Y.refl _ _⟩
 obtain⟨a,r,rfl,m⟩:=hrel;by_cases S:a<b
 .have C:(a:Int)<b:=by omega
  have F:=cT (show a<l.length by omega);have j:=eA (show a<l.length by omega);generalize l[a]=o at*;obtain⟨L,M⟩:=h.out o j;cases H with
  |none=>rw[(g.out rfl).1] at j;cases j
  |some y=>
   obtain⟨O,P,V⟩:=y;obtain⟨c,q⟩:=e.out _ rfl;simp only at c;subst c;have y0:=az m (q a o F) id;have t:=K (aeM o L M wr);clear q;go_wp2_with fail;refine t.out.mono ?_;rintro z J ⟨⟨s,rfl,c⟩,G⟩;have n:=m.trans G Η;have u:=K (yY (f.out J n) s);have c:=K c;go_wp2_with fail;refine u.out.mono ?_;rintro z W ⟨rfl,rfl⟩;cases B:du known s with
   |true=>go_wp2;exact⟨⟨a+1,by omega,by go_num,n⟩,by simp[aB];omega⟩
   |false=>
    go_wp2
    go_ret3
    exact⟨_,a+1,0,by simp,by omega,.inl rfl,λ_=>⟨c.out,B⟩,n⟩
 have C:¬(a:Int)<b:=by omega
 go_wp2
 go_ret3
 exact⟨_,b,14,rfl,hm1,.inr rfl,λd=>by simp at d,m⟩
section
open Go.Sort
def Bi(h:Z)(f:Nat)(c:Bs)(e:aI)(b:Z):Prop:=(∃d,e=ξ (ι d))/\∃g a,qC b f g a/\Ψ h b c a
theorem WI{e:BA->Option ε}{n:List BA}(a:kH w y 6 j k e x n)(b m:BA)(i:b.size<=Χ)(h:(e b).isSome=false):ν δ 361 #[π (N (U y 0 A)),H b,H m] w (Bi w y j):=by have g:=K (L9 a b i h);go_enter func361,ntmps361;go_wp2_with fail;refine g.out.mono ?_;rintro f o ⟨rfl,d⟩;have c:=a.keeps d (λ_ _ a=>a);go_wp2_with fail;refine(Nx ⟨_,_,_,_,c⟩).mono ?_;rintro f p ⟨rfl,l,rfl⟩;go_wp2;all_goals(go_ret;exact⟨⟨_,rfl⟩,6,j,⟨_,_,_,_,c.stay λ_ _=>rfl⟩,(Ψ.bu d j).drewN l⟩)
theorem Dj{f:Type}{e:f->Option ε}{b a:f}(d:(put e b (N x) a).isSome=true):a=b\/(e a).isSome=true:=by
 by_cases c:a=b
 .exact .inl c
 rw[dI _ _ _ _ c] at d;exact .inr d
theorem WK{J:BA->Option ε}{l:List BA}(a:kH w y k j d J x l)(c t:BA)(s:c.size<=Χ)(am:t.size<=most)(F:(J c).isSome=true):ν δ 361 #[π (N (U y 0 A)),H c,H t] w (Bi w y j):=by
 have af:=K (V9 a c s F);go_enter func361,ntmps361;go_wp2_with fail;refine af.out.mono ?_;rintro f aI ⟨rfl,M,ar,e⟩;have ah:(l.filter λb:BA=> !(b.toList==c.toList)).length<l.length:=by have:=List.length_filter_lt_length_iff_exists (l:=l) (p:=λb:BA=> !(b.toList==c.toList));exact this.2 ⟨c,a.mem c s F,by simp⟩
 have ag:=a.le;have ao:l.length=k:=by simpa using a.own.1
 have aE:(l.filter λb:BA=> !(b.toList==c.toList)).length<6:=by omega
 clear ah ag ao F;generalize(l.filter λb:BA=> !(b.toList==c.toList))=r at*;generalize put J c A=aG at*;generalize aj:r.length=m at*;clear aj a;have aB:r.length=m:=by simpa using e.own.1
 have aA:=M.keeps.size;have ac:=e.blk.cell 0;simp at ac;obtain⟨aa,au,S,q⟩:=e.map.store dG (t:=360) (e:=9) xz (by unfold Χ;omega) (x:=c) s (H t);simp only[bR] at au;have z:=q.blk (g:=y) e.blk e.ne;have aq:aa.ownsRow 0 9 1 ar m (r.map H):=aD e.own q λi n=>(e.apart i n).2;have ad:=z.cell 1;simp at ad;have E:=e.apart;have o:=e.ak;have Q:=e.ne;have an:=e.Β;have P:=e.mem;have al:=e.ok;have az:=z.lt;have aC:=S.lt;obtain⟨aw,ax,rfl⟩:=eX e.own;obtain⟨aH,L,av,T,I,X⟩:=nB 0 aq c (by omega) (ai _);have B:=I.blk z (λf=>(E _ f).1 rfl);have ay:=B.frozen 1;have ae:=B.cell 1;simp at ae
 have ab:Ψ w L j (λh=>j h\/aa.heap.size<=h/\h<L.heap.size):=
  ⟨(M.keeps.trans q λb f=> .inl ((o b).2 (.inr (.inl f)))).trans I λb f=> .inl ((o b).2 (.inr (.inr f))),λh p=>p.elim .inl λa=> .inr (by have:=q.size;omega)⟩
 obtain⟨u,C,rfl⟩:=eX T;have ap:=S.keeps I λf=>(E _ f).2 rfl;have aF:=q.size;go_wp2_with (at_builtin;refine dy rfl (.tmp 29) (.tmp 31) 26 rfl rfl rfl av ?_);go_wp2;all_goals go_ret
 all_goals
  have O:j y:=(o y).2 (.inl rfl);have R:=(Y.refl L (·=y)).χ (p:=(U y 1 A)) (.inl rfl) (V u (m+1) C)
  have W:∀i,(V u (m+1) C).ownBlock=N i->i≠y/\i≠d:=λi n=>by
   obtain a|a:=X i n
   .exact E i a
   exact⟨by omega,by omega⟩
  refine⟨⟨_,rfl⟩,m+1,λh=>h=y\/h=d\/(V u (m+1) C).ownBlock=N h,⟨d,_,_,r++[c],⟨(B.χ 1 _).to (by simp),(((ap.keeps R λf=>Q f.symm).tight dG (r++[c]) λb G g=> ?_).mono (by simp;omega)),?_,λb g=> ?_,λb v g=> ?_,λb G g=> ?_,Q,W,λh=>fT,by omega⟩⟩,⟨(ab.keeps.χ (.inl O) _).mono λ_ a=> .inl a,λh p=> ?_⟩⟩
  .obtain rfl|a:=Dj g
   .simp
   simp[P b G a]
  .have:=aD T R λi n=>(W i n).1;simpa using this
  .obtain a|a:=dO.1 g
   .exact al b a
   simp at a;subst a;exact s
  .by_cases f:b=c
   .subst f;rw[dJ] at g;injection g with g;exact⟨t,g.symm,am⟩
   rw[dI _ _ _ _ f] at g;exact an b v g
  .obtain rfl|a:=Dj g
   .simp
   simp[P b G a]
  .obtain rfl|rfl|p:=p
   .exact .inl O
   .exact .inl ((o _).2 (.inr (.inl rfl)))
   obtain a|a:=X h p
   .exact .inl ((o h).2 (.inr (.inr a)))
   exact .inr (by omega)
theorem WJ{X:BA->Option ε}{p:List BA}(a:kH w y k j d X x p)(i q:BA)(B:i.size<=Χ)(al:q.size<=most)(Q:(X i).isSome=false)(S:k<6):ν δ 361 #[π (N (U y 0 A)),H i,H q] w (Bi w y j):=by
 have O:=K (L9 a i B Q);go_enter func361,ntmps361;go_wp2_with fail;refine O.out.mono ?_;rintro c I ⟨rfl,E⟩;have b:=a.keeps E (λ_ _ a=>a);go_wp2_with fail;refine(Nx ⟨_,_,_,_,b⟩).mono ?_;rintro c J ⟨rfl,G,rfl⟩;have M:=(Ψ.bu E j).drewN G;have av:((k:Int)==6)=false:=ahO (by omega);have b:=b.stay (w':=I.drewN G) λ_ _=>rfl;clear a E O Q;generalize I.drewN G=I at*;have aB:=S;clear S;have az:p.length=k:=by simpa using b.own.1
 have ay:=M.keeps.size;have af:=b.blk.cell 0;simp at af;obtain⟨J,ap,aa,o⟩:=b.map.store dG (t:=360) (e:=9) xz (by unfold Χ;omega) (x:=i) B (H q);simp only[bR] at ap;have s:=o.blk (g:=y) b.blk b.ne;have ao:J.ownsRow 0 9 1 x k (p.map H):=aD b.own o λh l=>(b.apart h l).2;have ag:=s.cell 1;simp at ag;have z:=b.apart;have m:=b.ak;have T:=b.ne;have am:=b.Β;have R:=b.mem;have aj:=b.ok;have ax:=s.lt;have aA:=aa.lt;obtain⟨ar,au,rfl⟩:=eX b.own;obtain⟨aE,L,aq,ab,F,ad⟩:=nB 0 ao i (by omega) (ai _);have t:=F.blk s (λc=>(z _ c).1 rfl);have aw:=t.frozen 1;have ah:=t.cell 1;simp at ah
 have ae:Ψ w L j (λf=>j f\/J.heap.size<=f/\f<L.heap.size):=
  ⟨(M.keeps.trans o λg c=> .inl ((m g).2 (.inr (.inl c)))).trans F λg c=> .inl ((m g).2 (.inr (.inr c))),λf n=>n.elim .inl λa=> .inr (by have:=o.size;omega)⟩
 obtain⟨r,u,rfl⟩:=eX ab;have an:=aa.keeps F λc=>(z _ c).2 rfl;have aC:=o.size;go_wp2_with (at_builtin;refine dy rfl (.tmp 29) (.tmp 31) 26 rfl rfl rfl aq ?_);go_wp2;all_goals go_ret
 all_goals
  have P:j y:=(m y).2 (.inl rfl);have W:=(Y.refl L (·=y)).χ (p:=(U y 1 A)) (.inl rfl) (V r (k+1) u)
  have ac:∀h,(V r (k+1) u).ownBlock=N h->h≠y/\h≠d:=λh l=>by
   obtain a|a:=ad h l
   .exact z h a
   exact⟨by omega,by omega⟩
  refine⟨⟨_,rfl⟩,k+1,λf=>f=y\/f=d\/(V r (k+1) u).ownBlock=N f,⟨d,_,_,p++[i],⟨(t.χ 1 _).to (by simp),(((an.keeps W λc=>T c.symm).tight dG (p++[i]) λg C e=> ?_).mono (by simp;omega)),?_,λg e=> ?_,λg v e=> ?_,λg C e=> ?_,T,ac,λf=>fT,by omega⟩⟩,⟨(ae.keeps.χ (.inl P) _).mono λ_ a=> .inl a,λf n=> ?_⟩⟩
  .obtain rfl|a:=Dj e
   .simp
   simp[R g C a]
  .have:=aD ab W λh l=>(ac h l).1;simpa using this
  .obtain a|a:=dO.1 e
   .exact aj g a
   simp at a;subst a;exact B
  .by_cases c:g=i
   .subst c;rw[dJ] at e;injection e with e;exact⟨q,e.symm,al⟩
   rw[dI _ _ _ _ c] at e;exact am g v e
  .obtain rfl|a:=Dj e
   .simp
   simp[R g C a]
  .obtain rfl|rfl|n:=n
   .exact .inl P
   .exact .inl ((m _).2 (.inr (.inl rfl)))
   obtain a|a:=ad f n
   .exact .inl ((m f).2 (.inr (.inr a)))
   exact .inr (by omega)
end
section
open Go.Sort
theorem Mp(a:qC w y k j)(b c:BA)(e:b.size<=Χ)(f:c.size<=most):ν δ 361 #[π (N (U y 0 A)),H b,H c] w (Bi w y j):=by
 obtain⟨i,h,l,m,a⟩:=a;cases d:(h b).isSome with
 |true=>exact WK a b c e f d
 |false=>
  by_cases g:k<6
  .exact WJ a b c e f d g
  obtain rfl:k=6:=by have:=a.le;omega
  exact WI a b c e d
def Tn(e:Z)(h:Nat)(f:Bs)(g:aI)(b:Z):Prop:=∃v d a,g=ξ v/\jw b e.heap.size v d/\d<=6/\qC b h 0 a/\Ψ e b f a/\∀c,v.ownBlock=N c->¬a c
theorem Yt(a:qC w y k j):ν δ 365 #[π (N (U y 0 A))] w (Tn w y j):=by
 obtain⟨G,F,av,f,a⟩:=a;have x:f.length=k:=by simpa using a.own.1
 have S:=a.le;obtain⟨L,ah,rfl⟩:=eX a.own;have i:=a.blk.cell 0;have t:=a.blk.cell 1;simp at i t;have ar:(k:Int)<=9223372036854775807:=by omega
 have g:=Y.refl w γ;have X:=K x;clear x;go_enter func365,ntmps365;go_wp2;clear i t;go_loopw [3,5,13] (λac _ q wr=>∃(b:Nat) (n:List ε),b<=k/\q=I E b/\wr.ownsRow w.heap.size 9 1 ac b n/\(∀v∈n,gM v)/\Y w wr γ) (λ_ _ q _=>k-(aB q).toNat)
 case atStart=>exact⟨0,[],ai _,rfl,db _ _ _ _,nofun,g⟩
 clear g;obtain⟨b,n,ao,rfl,m,z,g⟩:=hrel;have l:=a.keeps g (λ_ _ a=>a);have aa:=g.size;by_cases T:b<k
 .have W:(b:Int)<k:=by omega
  have B:b<f.length:=by rw[X.out];exact T
  obtain⟨h,rfl⟩:∃h,L=N (U h 0 A):=by
   obtain⟨d,aq⟩|⟨c,aj,al,d,_⟩:=a.own.2
   .omega
   .injection d with Q;exact⟨c,Q⟩
  have aA:wr.cell? (U h b A)=N (H f[b]):=by
   have:=l.own.cells (g:=h) rfl b (H f[b]) (by simp[B]);have d:((⟨h,0,A⟩:ay).add b)=⟨h,b,A⟩:=by unfold jm;by_cases R:b=0<;>simp[R]
   rw[d] at this;exact this
  have i:=l.blk.cell 0;simp at i;have J:=l.map.look dG (t:=360) (e:=9) xz (Ed wr) (x:=f[b]) (a.ok _ (eA B));simp only[bR] at J
  obtain⟨e,o,hs2⟩:∃e,(F f[b]).getD (H (D #[]))=H e/\e.size<=most:=by
   cases d:F f[b] with
   |none=>exact⟨_,rfl,by decide⟩
   |some v=>obtain⟨e,rfl,o⟩:=a.Β _ v d;exact⟨e,rfl,o⟩
  rw[o] at J;clear o;obtain⟨ax,az,af,ae,ab,au⟩:=nB w.heap.size m e (by omega) aa;generalize f[b]=aC at*;go_wp2_with (at_builtin;refine dy rfl (.tmp 17) (.tmp 24) 26 rfl rfl rfl af ?_);refine⟨⟨b+1,n++[H e],by omega,by go_num,ae,λv hv=> ?_,g.trans ab λc d=> .inr (m.lt c d).1⟩,by simp[aB];omega⟩;obtain a|a:=dO.1 hv
  .exact z v a
  simp at a;exact⟨e,a,hs2⟩
 obtain rfl:b=k:=by omega
 have W:¬(b:Int)<b:=by omega
 obtain⟨ag,aw,ad,r⟩:=l.map.Wi (t:=360) (e:=9) xz 0;have i:=l.blk.cell 0;simp at i;have p:=r.blk (g:=y) l.blk a.ne;have am:=p.frozen 1;have P:=p.cell 1;simp at P;obtain⟨M,O,rfl⟩:=eX m;have an:=a.blk.lt;have ap:=a.map.lt;go_wp2;all_goals go_ret
 all_goals
  have C:=(Y.refl ag (·=y)).χ (p:=(U y 1 A)) (.inl rfl) (V A 0 0);have s:∀c,(V M b O).ownBlock=N c->w.heap.size<=c:=λc d=>(m.lt c d).1;refine⟨_,b,λc=>c=y\/c=G,rfl,⟨n,by simpa using m.1,aD (aD m r λc d=>by have:=s c d;omega) C λc d=>by have:=s c d;omega,z⟩,S,⟨G,_,V A 0 0,[],⟨(p.χ 1 _).to (by simp),(ad.keeps C λd=>a.ne d.symm).mono (by omega),db _ _ _ _,nofun,nofun,nofun,a.ne,nofun,λc=>⟨λa=>a.elim .inl λa=> .inr (.inl a),λa=>a.elim .inl λa=>a.elim .inr nofun⟩,by omega⟩⟩,⟨?_,λc u=> .inl ((a.ak c).2 (u.elim .inl λa=> .inr (.inl a)))⟩,λc d u=>by have:=s c d;omega⟩;exact((g.any (F:=j)).trans r λc d=> .inl ((a.ak c).2 (.inr (.inl d)))).χ (.inl ((a.ak y).2 (.inl rfl))) _
end
section
open Go.Sort
def fD(h:Z)(v:ε)(a:Nat)(e:List ε):Prop:=e.length=a/\(∀b∈e,b.oneCell'=true)/\∃d f,v=V d a f/\(d=A->a=0/\f=0)/\∀c,d=N c->(a≠0->c.spot=A)/\∀g b,e[g]? =N b->h.cell? (c.add g)=N b
theorem fD.dw{B:Nat}{v:ε}(b:w.ownsRow B u 1 v y a)(g:∀d∈a,d.oneCell'=true):fD w v y a:=by
 refine⟨by simpa using b.1,g,?_⟩;obtain⟨rfl,rfl⟩|⟨f,e,k,rfl,_⟩:=b.2
 .exact⟨A,0,rfl,λ_=>⟨rfl,rfl⟩,nofun⟩
 exact⟨_,e,rfl,nofun,λj c=>by injection c with c;subst c;exact⟨λ_=>rfl,λi d h=>b.cells (g:=f) rfl i d h⟩⟩
theorem fD.keeps{w i:Z}{F:Bs}(d:fD w x y a)(s:Y w i F)(p:∀e,x.ownBlock=N e->¬F e):fD i x y a:=by
 obtain⟨k,l,t,j,rfl,m,g⟩:=d;refine⟨k,l,t,j,rfl,m,λb n=> ?_⟩;subst n;refine⟨(g b rfl).1,λh u q=> ?_⟩;have c:=(g b rfl).2 h u q;have f:(b.add h).block=b.block:=by unfold jm;split<;>rfl
 have r:b.block<w.heap.size:=by
  obtain d|d:=fU b.block w.heap.size
  .exact d
  exfalso;unfold fN at c;rw[f,Array.getElem?_eq_none d] at c;simp at c
 have o:=s.block b.block r (p b.block rfl);unfold fN at c⊢;rw[f] at c⊢;rw[o];exact c
theorem yH(f:Nat)(c b:aQ)(o:prog.underlying c=N (.slice b))(G:(prog.info? b).map (λe=>(e.zero,e.size,e.bytes))=N (N x,1,y))(I:x.cells.size=1){l:List ε}(m:w.ownsRow f b 1 i k a)(H:fD w t d l)(C:k+d<=Χ)(F:(k+d)*y<=140737488355328)(E:f<=w.heap.size):∃h j,(gJ #[c,c] c #[i,t]).run δ w= .ok h j/\j.ownsRow f b 1 h (k+d) (a++l)/\Y w j (λg=>i.ownBlock=N g)/\∀g,h.ownBlock=N g->i.ownBlock=N g\/w.heap.size<=g:=by
 obtain⟨e,p,K,L,M⟩:=info_parts G;obtain⟨O,P,J,q,rfl,Q,R⟩:=H;cases J with
 |some n=>obtain⟨h,j,s,u,z,B⟩:=yG f c c b e x 1 y o p K L M I (by decide) i k a m n d q l (by omega) (R n rfl).2 P C F E;exact⟨h,j,s,u,Y.jy z λ_ b=>b,B⟩
 |none=>obtain⟨rfl,rfl⟩:=Q rfl;obtain rfl:l=[]:=AC O;exact⟨i,w,run_append_owned_none (P:=δ) (w:=w) f c c b e 1 o p i k a m,by simpa using m,Y.refl _ _,λ_ r=> .inl r⟩
theorem fD.form(d:fD w x y a):∃c b,x=V c y b:=by obtain⟨_,_,c,b,rfl,_⟩:=d;exact⟨c,b,rfl⟩
theorem DK:(prog.info? 9).map (λa=>(a.zero,a.size,a.bytes))=N (N (H (D #[])),1,16):=zU
theorem Jg:(prog.info? 32).map (λa=>(a.zero,a.size,a.bytes))=N (N (I .u64 0),1,8):=by kernel_rfl
theorem Jq:prog.underlying 26=N (.slice 9):=zV
theorem Rq:prog.underlying 33=N (.slice 32):=by kernel_rfl
theorem ae6(e:Lays8.n4 δ DL)(b:Nat)(m:b<=2000000)(a:Z):ν δ 390 #[V A 0 0,I E b] a λd c=>∃v,d=ξ v/\c.ownsRow a.heap.size 9 1 v 0 []/\Y a c γ:=by
 obtain⟨h,i,j,k,l⟩:=info_parts DK;by_cases f:b=0
 .subst f;have:=Any8.slices_Grow_room e A 0 0 0 a (by omega) (by omega) (by omega) (by omega);change ν δ 390 _ _ _ at this;refine this.mono ?_;rintro d c ⟨rfl,rfl⟩;exact⟨_,rfl,db _ _ _ _,Y.refl _ _⟩
 have:=Any8.slices_Grow_grow e h (H (D #[])) i j (by rw[k];decide) A 0 0 b [] a (by omega) (by omega) (by rw[l];omega) (by omega) (by simp) (λ_=>rfl) nofun;change ν δ 390 _ _ _ at this;refine this.mono ?_;rintro d c ⟨rfl,rfl⟩;refine⟨_,rfl,⟨rfl,.inr ⟨_,_,_,rfl,Ο _,θ.new a.drew _ _,by omega,?_,?_,by simp⟩⟩,((Y.refl a γ).drew).alloc _⟩
 .exact grownCap_le_maxLen _ _ _ _ (by unfold Χ;omega)
 have:=grownCap_ge a (0+b) 0 (DL.t 25);have g:(vl (H (D #[]))).size=1:=rfl;rw[eP] at this;simp[size_zeroCells,g];omega
def Ty(b:Z)(c:List ε)(d:aI)(a:Z):Prop:=∃v,d=ξ v/\a.ownsRow b.heap.size 9 1 v c.length c/\Y b a γ
theorem Wr(G:Lays8.n4 δ DL){l:List ε}(h:θ w y 26 #[x,i])(r:fD w x k a)(s:fD w i d l)(ae:k<=1000000)(af:d<=1000000):ν δ 364 #[V (N (U y 0 A)) 2 2] w (Ty w (a++l)):=by
 obtain⟨ab,T,rfl⟩:=r.form;obtain⟨ac,W,rfl⟩:=s.form;have n:=h.cell 0;have o:=h.cell 1;simp at n o;go_enter func364,ntmps364;go_wp2;go_loop [3,5,11] (λg _ e=>(e=I E 0/\g=I E 0)\/(e=I E 1/\g=I E k)\/(e=I E 2/\g=I E (k+d:Nat))) (λ_ _ e=>2-(aB e).toNat)
 case atStart=>exact .inl ⟨rfl,rfl⟩
 obtain⟨rfl,rfl⟩|⟨rfl,rfl⟩|⟨rfl,rfl⟩:=hrel
 .go_wp2;exact⟨.inr (.inl ⟨rfl,rfl⟩),by simp[aB]⟩
 .go_wp2;exact⟨.inr (.inr ⟨rfl,by simp⟩),by simp[aB]⟩
 go_wp2_with fail;refine(ae6 G (k+d) (by omega) w).mono ?_;rintro p ad ⟨v,rfl,c,b⟩;have m:=b.blk h id;have H:=r.keeps b (λ_ _ f=>f);have J:=s.keeps b (λ_ _ f=>f);have aa:=h.lt;obtain⟨X,S,rfl⟩:=eX c;have C:a.length=k:=r.1;have F:l.length=d:=s.1;have L:=K C;have M:=K F;clear C F n o;go_wp2;go_loopw [6,8,27] (λg _ e wr=>∃(j:Nat),e=I E j/\Y w wr γ/\((j=0/\wr.ownsRow w.heap.size 9 1 g 0 [])\/(j=1/\wr.ownsRow w.heap.size 9 1 g k a)\/(j=2/\wr.ownsRow w.heap.size 9 1 g (k+d) (a++l)))) (λ_ _ e _=>2-(aB e).toNat)
 case atStart=>exact⟨0,rfl,b,.inl ⟨rfl,c⟩⟩
 clear b m H J c;obtain⟨j,rfl,b,O⟩:=hrel;have m:=b.blk h id;have n:=m.cell 0;have o:=m.cell 1;simp at n o;obtain⟨rfl,c⟩|⟨rfl,c⟩|⟨rfl,c⟩:=O
 .obtain⟨Q,R,z,q,u,P⟩:=yH w.heap.size 26 9 Jq DK rfl c (r.keeps b (λ_ _ f=>f)) (by unfold Χ;omega) (by omega) b.size;simp only[eP,AI] at q;go_wp2_with (at_builtin;refine dy rfl (.tmp 31) (.tmp 32) 26 rfl rfl rfl z ?_);exact⟨⟨1,rfl,b.trans u λt p=> .inr (c.lt t p).1,.inr (.inl ⟨rfl,q⟩)⟩,by simp[aB]⟩
 .obtain⟨Q,R,z,q,u,P⟩:=yH w.heap.size 26 9 Jq DK rfl c (s.keeps b (λ_ _ f=>f)) (by unfold Χ;omega) (by omega) b.size;go_wp2_with (at_builtin;refine dy rfl (.tmp 31) (.tmp 32) 26 rfl rfl rfl z ?_);exact⟨⟨2,rfl,b.trans u λt p=> .inr (c.lt t p).1,.inr (.inr ⟨rfl,q⟩)⟩,by simp[aB]⟩
 have B:(a++l).length=k+d:=by rw[cL,L.out,M.out]
 rw[<-B] at c;have b:=K b;clear B;go_wp2;all_goals(go_ret;exact⟨_,rfl,c,b.out⟩)
theorem ae7(e:Lays8.n4 δ DO)(b:Nat)(m:b<=2000000)(a:Z):ν δ 60 #[V A 0 0,I E b] a λd c=>∃v,d=ξ v/\c.ownsRow a.heap.size 32 1 v 0 []/\Y a c γ:=by
 obtain⟨h,i,j,k,l⟩:=info_parts Jg;by_cases f:b=0
 .subst f;have:=Any8.slices_Grow_room e A 0 0 0 a (by omega) (by omega) (by omega) (by omega);change ν δ 60 _ _ _ at this;refine this.mono ?_;rintro d c ⟨rfl,rfl⟩;exact⟨_,rfl,db _ _ _ _,Y.refl _ _⟩
 have:=Any8.slices_Grow_grow e h (I .u64 0) i j (by rw[k];decide) A 0 0 b [] a (by omega) (by omega) (by rw[l];omega) (by omega) (by simp) (λ_=>rfl) nofun;change ν δ 60 _ _ _ at this;refine this.mono ?_;rintro d c ⟨rfl,rfl⟩;refine⟨_,rfl,⟨rfl,.inr ⟨_,_,_,rfl,Ο _,θ.new a.drew _ _,by omega,?_,?_,by simp⟩⟩,((Y.refl a γ).drew).alloc _⟩
 .exact grownCap_le_maxLen _ _ _ _ (by unfold Χ;omega)
 have:=grownCap_ge a (0+b) 0 (DO.t 25);have g:(vl (I .u64 0)).size=1:=rfl;rw[eP] at this;simp[size_zeroCells,g];omega
def Tz(b:Z)(c:List ε)(d:aI)(a:Z):Prop:=∃v,d=ξ v/\a.ownsRow b.heap.size 32 1 v c.length c/\Y b a γ
theorem Ws(G:Lays8.n4 δ DO){w:Z}{l:List ε}(h:θ w y 33 #[x,i])(r:fD w x k a)(s:fD w i d l)(ae:k<=1000000)(af:d<=1000000):ν δ 30 #[V (N (U y 0 A)) 2 2] w (Tz w (a++l)):=by
 obtain⟨ab,T,rfl⟩:=r.form;obtain⟨ac,W,rfl⟩:=s.form;have n:=h.cell 0;have o:=h.cell 1;simp at n o;go_enter func30,ntmps30;go_wp2;go_loop [3,5,11] (λg _ e=>(e=I E 0/\g=I E 0)\/(e=I E 1/\g=I E k)\/(e=I E 2/\g=I E (k+d:Nat))) (λ_ _ e=>2-(aB e).toNat)
 case atStart=>exact .inl ⟨rfl,rfl⟩
 obtain⟨rfl,rfl⟩|⟨rfl,rfl⟩|⟨rfl,rfl⟩:=hrel
 .go_wp2;exact⟨.inr (.inl ⟨rfl,rfl⟩),by simp[aB]⟩
 .go_wp2;exact⟨.inr (.inr ⟨rfl,by simp⟩),by simp[aB]⟩
 go_wp2_with fail;refine(ae7 G (k+d) (by omega) w).mono ?_;rintro p ad ⟨v,rfl,c,b⟩;have m:=b.blk h id;have H:=r.keeps b (λ_ _ f=>f);have J:=s.keeps b (λ_ _ f=>f);have aa:=h.lt;obtain⟨X,S,rfl⟩:=eX c;have C:a.length=k:=r.1;have F:l.length=d:=s.1;have L:=K C;have M:=K F;clear C F n o;go_wp2;go_loopw [6,8,27] (λg _ e wr=>∃(j:Nat),e=I E j/\Y w wr γ/\((j=0/\wr.ownsRow w.heap.size 32 1 g 0 [])\/(j=1/\wr.ownsRow w.heap.size 32 1 g k a)\/(j=2/\wr.ownsRow w.heap.size 32 1 g (k+d) (a++l)))) (λ_ _ e _=>2-(aB e).toNat)
 case atStart=>exact⟨0,rfl,b,.inl ⟨rfl,c⟩⟩
 clear b m H J c;obtain⟨j,rfl,b,O⟩:=hrel;have m:=b.blk h id;have n:=m.cell 0;have o:=m.cell 1;simp at n o;obtain⟨rfl,c⟩|⟨rfl,c⟩|⟨rfl,c⟩:=O
 .obtain⟨Q,R,z,q,u,P⟩:=yH w.heap.size 33 32 Rq Jg rfl c (r.keeps b (λ_ _ f=>f)) (by unfold Χ;omega) (by omega) b.size;simp only[eP,AI] at q;go_wp2_with (at_builtin;refine dy rfl (.tmp 31) (.tmp 32) 33 rfl rfl rfl z ?_);exact⟨⟨1,rfl,b.trans u λt p=> .inr (c.lt t p).1,.inr (.inl ⟨rfl,q⟩)⟩,by simp[aB]⟩
 .obtain⟨Q,R,z,q,u,P⟩:=yH w.heap.size 33 32 Rq Jg rfl c (s.keeps b (λ_ _ f=>f)) (by unfold Χ;omega) (by omega) b.size;go_wp2_with (at_builtin;refine dy rfl (.tmp 31) (.tmp 32) 33 rfl rfl rfl z ?_);exact⟨⟨2,rfl,b.trans u λt p=> .inr (c.lt t p).1,.inr (.inr ⟨rfl,q⟩)⟩,by simp[aB]⟩
 have B:(a++l).length=k+d:=by rw[cL,L.out,M.out]
 rw[<-B] at c;have b:=K b;clear B;go_wp2;all_goals(go_ret;exact⟨_,rfl,c,b.out⟩)
end
structure iC (w:Z) (g:Nat) (kept ar ae idle:Bool) (F:Bs) (lp:Option ay) (cg n:Nat) (Fl Fc:Bs):Prop where
 blk:θ w g 259 #[π lp,π (N (U cg 0 A)),ι idle,ι ar,ι ae]
 l9:(kept=true/\∃lg,lp=N (U lg 0 A)/\mx w lg Fl)\/(kept=false/\lp=A/\Fl=γ)
 jK:qC w cg n Fc
 g1:¬Fl g
 g2:¬Fc g
 apart:∀k,Fl k->¬Fc k
 ak:∀k,F k↔(k=g\/Fl k\/Fc k)
def eR(w:Z)(g:Nat)(kept ar ae:Bool)(F:Bs):Prop:=∃idle lp cg n Fl Fc,iC w g kept ar ae idle F lp cg n Fl Fc
section
variable {w w':Z} {g:Nat} {kept ar ae idle:Bool} {F:Bs} {lp:Option ay} {cg n:Nat} {Fl Fc:Bs}
theorem iC.lt(c:iC w g kept ar ae idle F lp cg n Fl Fc):∀b,F b->b<w.heap.size:=by
 intro b a;obtain rfl|a|a:=(c.ak b).1 a
 .exact c.blk.lt
 .obtain⟨_,e,_,d⟩|⟨_,_,rfl⟩:=c.l9
  .exact(sK e).lt d b a
  exact a.elim
 exact(qP cg n).lt c.jK b a
theorem iC.stay(a:iC w g kept ar ae idle F lp cg n Fl Fc)(c:∀b,F b->w'.heap[b]? =w.heap[b]?):iC w' g kept ar ae idle F lp cg n Fl Fc:=by
 refine⟨(c g ((a.ak g).2 (.inl rfl))).trans a.blk,?_,(qP cg n).stay a.jK λb d=>c b ((a.ak b).2 (.inr (.inr d))),a.g1,a.g2,a.apart,a.ak⟩;obtain⟨h0,lg,h1,h2⟩|a:=a.l9
 .exact .inl ⟨h0,lg,h1,(sK lg).stay h2 λb d=>c b ((a.ak b).2 (.inr (.inl d)))⟩
 exact .inr a
theorem iC.keeps{G:Bs}(b:iC w g kept ar ae idle F lp cg n Fl Fc)(e:Y w w' G)(d:∀a,F a->¬G a):iC w' g kept ar ae idle F lp cg n Fl Fc:=
 b.stay λa c=>e.block a (b.lt a c) (d a c)
theorem uF(g:Nat)(kept ar ae:Bool):ju λw F=>eR w g kept ar ae F where
 lt a k hk:=by obtain⟨idle,lp,cg,n,Fl,Fc,a⟩:=a;exact a.lt k hk
 stay a he:=by obtain⟨idle,lp,cg,n,Fl,Fc,a⟩:=a;exact⟨idle,lp,cg,n,Fl,Fc,a.stay he⟩
theorem iC.Gz(b:iC w g kept ar ae idle F lp cg n Fl Fc){f:Nat}{e:Bs}(h:qC w' cg f e)(d:Ψ w w' Fc e):iC w' g kept ar ae idle (λa=>a=g\/Fl a\/e a) lp cg f Fl e/\Ψ w w' F (λa=>a=g\/Fl a\/e a):=by
 have k:=b.lt;have j:∀a,Fl a->a<w.heap.size:=λa c=>k a ((b.ak a).2 (.inr (.inl c)));refine⟨⟨d.keeps.blk b.blk b.g2,?_,h,b.g1,λc=> ?_,λa c i=> ?_,λa=>fT⟩,⟨d.keeps.mono λa c=> .inl ((b.ak a).2 (.inr (.inr c))),λa c=> ?_⟩⟩
 .obtain⟨h0,lg,h1,h2⟩|b:=b.l9
  .exact .inl ⟨h0,lg,h1,(sK lg).keeps h2 d.keeps b.apart⟩
  exact .inr b
 .obtain h1|h1:=d.fresh g c
  .exact b.g2 h1
  have:=b.blk.lt;omega
 .obtain h1|h1:=d.fresh a i
  .exact b.apart a c h1
  have:=j a c;omega
 obtain rfl|c|c:=c
 .exact .inl ((b.ak _).2 (.inl rfl))
 .exact .inl ((b.ak a).2 (.inr (.inl c)))
 obtain h1|h1:=d.fresh a c
 .exact .inl ((b.ak a).2 (.inr (.inr h1)))
 exact .inr h1
theorem iC.CS{b:Nat}(a:iC w g true ar ae idle F (N (U b 0 A)) cg n Fl Fc)(h:mx w' b Fl)(c:Ψ w w' Fl Fl):iC w' g true ar ae idle F (N (U b 0 A)) cg n Fl Fc/\Ψ w w' F F:=
 ⟨⟨c.keeps.blk a.blk a.g1,.inl ⟨rfl,b,rfl,h⟩,(qP cg n).keeps a.jK c.keeps λe d f=>a.apart e f d,a.g1,a.g2,a.apart,a.ak⟩,I5 c λe d=>(a.ak e).2 (.inr (.inl d))⟩
theorem iC.χ{idle' away' over':Bool}(a:iC w g kept ar ae idle F lp cg n Fl Fc){i:Nat}{u:ε}(e:θ (w.setCell (U g i A) u) g 259 #[π lp,π (N (U cg 0 A)),ι idle',ι away',ι over']):iC (w.setCell (U g i A) u) g kept away' over' idle' F lp cg n Fl Fc:=by
 have d:=(Y.refl w (·=g)).χ (p:=(U g i A)) (.inl rfl) u;refine⟨e,?_,(qP cg n).keeps a.jK d λf c b=>a.g2 (b▸c),a.g1,a.g2,a.apart,a.ak⟩;obtain⟨h0,lg,h1,h2⟩|h3:=a.l9
 .exact .inl ⟨h0,lg,h1,(sK lg).keeps h2 d λf c b=>a.g1 (b▸c)⟩
 exact .inr h3
end
theorem qX{w:Z}{g:Nat}{kept ar ae:Bool}{F:Bs}(a:eR w g kept ar ae F):ν δ 180 #[π (N (U g 0 A))] w λc w'=>c=ξ (ι ae)/\w=w':=by obtain⟨idle,lp,cg,n,Fl,Fc,a⟩:=a;have b:=a.blk.cell 4;simp at b;clear a;go_enter func180,ntmps180;go_wp2;all_goals(go_ret;exact⟨rfl,rfl⟩)
theorem Hn{w:Z}{g:Nat}{kept ar ae:Bool}{F:Bs}(a:eR w g kept ar ae F):ν δ 169 #[π (N (U g 0 A))] w λd w'=>d=ξ (ι (!ae&&kept))/\w=w':=by
 obtain⟨idle,lp,cg,n,Fl,Fc,a⟩:=a;have c:=a.blk.cell 4;have b:=a.blk.cell 0;simp at b c;obtain⟨rfl,e,rfl,_⟩|⟨rfl,rfl,_⟩:=a.l9
 all_goals
  clear a;cases ae
  all_goals
   go_enter func169,ntmps169;go_wp2;all_goals(go_ret;exact⟨rfl,rfl⟩)
theorem Yw(w:Z):ν δ 168 #[] w λf w'=>∃g F,f=ξ (π (N (U g 0 A)))/\eR w' g false false false F/\Ψ w w' γ F:=by
 go_enter func168,ntmps168;go_wp2_with fail;refine(Wl _).mono ?_;rintro f e ⟨cg,Fc,rfl,h,c⟩;go_wp2;all_goals go_ret
 all_goals
  have i:=(qP cg 0).lt h;refine⟨e.heap.size,λb=>b=e.heap.size\/Fc b,rfl,⟨false,A,cg,0,γ,Fc,⟨θ.new _ _ _,.inr ⟨rfl,rfl,rfl⟩,(qP cg 0).keeps h ((Y.refl e γ).alloc _) (λ_ _ a=>a),id,λa=>by have:=i _ a;omega,Η,λb=>⟨λa=>a.elim .inl λa=> .inr (.inr a),λa=>a.elim .inl λa=>a.elim (λa=>a.elim) .inr⟩⟩⟩,⟨c.keeps.alloc _,λb d=> ?_⟩⟩;obtain rfl|d:=d
  .exact .inr c.keeps.size
  .exact c.fresh b d
def Fx(c:Z)(g:Nat)(kept ar ae:Bool)(F:Bs)(a:ε->Prop)(b:aI)(w:Z):Prop:=(∃v,b=ξ v/\a v)/\eR w g kept ar ae F/\Ψ c w F F
section
variable {w:Z} {g:Nat} {kept ar ae:Bool} {F:Bs}
theorem Zp(a:eR w g kept ar ae F)(d:Int)(l:0<=d):ν δ 100 #[π (N (U g 0 A)),I E d] w (Fx w g kept ar ae F Bb):=by
 have b:=K (Hn a);cases c:(!ae&&kept) with
 |false=>rw[c] at b;go_enter func100,ntmps100;go_wp2_with fail;refine b.out.mono ?_;rintro e f ⟨rfl,rfl⟩;go_wp2;all_goals(go_ret;exact⟨⟨_,rfl,0,rfl,by omega,by omega⟩,a,Ψ.refl w F⟩)
 |true=>
  rw[c] at b;obtain⟨rfl,rfl⟩:ae=false/\kept=true:=by simpa using c
  obtain⟨idle,y,u,z,t,s,a⟩:=a;obtain⟨_,x,rfl,k⟩|⟨j,_⟩:=a.l9
  .have h:=a.blk.cell 0;simp at h;have m:=K (aeu k d l);go_enter func100,ntmps100;go_wp2_with fail;refine b.out.mono ?_;rintro e f ⟨rfl,rfl⟩;go_wp2_with fail;refine m.out.mono ?_;rintro e f ⟨⟨v,rfl,r,rfl,n⟩,q,i⟩;obtain⟨o,p⟩:=a.CS q i;go_wp2;all_goals(go_ret;exact⟨⟨_,rfl,r,rfl,n⟩,⟨_,_,_,_,_,_,o⟩,p⟩)
  cases j
theorem Yc(a:eR w g kept ar ae F)(d:Int)(o:eB d):ν δ 256 #[π (N (U g 0 A)),I Λ d] w (Fx w g kept ar ae F (Ba [0,10,11])):=by
 have b:=K (Hn a);cases c:(!ae&&kept) with
 |false=>rw[c] at b;go_enter func256,ntmps256;go_wp2_with fail;refine b.out.mono ?_;rintro e h ⟨rfl,rfl⟩;go_wp2;all_goals(go_ret;exact⟨⟨_,rfl,11,rfl,by simp⟩,a,Ψ.refl w F⟩)
 |true=>
  rw[c] at b;obtain⟨rfl,rfl⟩:ae=false/\kept=true:=by simpa using c
  obtain⟨idle,y,u,z,t,s,a⟩:=a;obtain⟨_,x,rfl,m⟩|⟨k,_⟩:=a.l9
  .have i:=a.blk.cell 0;simp at i;have n:=K (Ml m d o);go_enter func256,ntmps256;go_wp2_with fail;refine b.out.mono ?_;rintro e h ⟨rfl,rfl⟩;go_wp2_with fail;refine n.out.mono ?_;rintro e h ⟨⟨B,f,rfl,b⟩,r,j⟩;obtain⟨p,q⟩:=a.CS r j;have l:f∈[(0:Int),10,11]:=by simp at b⊢;omega
   clear b;go_wp2;all_goals(go_ret;exact⟨⟨_,rfl,f,rfl,l⟩,⟨_,_,_,_,_,_,p⟩,q⟩)
  cases k
theorem aaw(a:eR w g kept ar ae F)(e:(ae||ar)=true):ν δ 105 #[π (N (U g 0 A))] w λb f=>b=ξ (I E 11)/\w=f:=by
 have c:=K (qX a);obtain⟨idle,l,k,m,j,i,a⟩:=a;have d:=a.blk.cell 3;simp at d;clear a;cases ae with
 |true=>go_enter func105,ntmps105;go_wp2_with fail;refine c.out.mono ?_;rintro b h ⟨rfl,rfl⟩;go_wp2;all_goals(go_ret;exact⟨rfl,rfl⟩)
 |false=>
  obtain rfl:ar=true:=by simpa using e
  go_enter func105,ntmps105;go_wp2_with fail;refine c.out.mono ?_;rintro b h ⟨rfl,rfl⟩;go_wp2;all_goals(go_ret;exact⟨rfl,rfl⟩)
theorem aav(a:eR w g true false false F):ν δ 105 #[π (N (U g 0 A))] w λb c=>b=ξ (I E 0)/\eR c g true true false F/\Ψ w c F F:=by
 have h:=K (qX a);obtain⟨idle,o,k,p,j,i,a⟩:=a;have d:=a.blk.cell 0;have e:=a.blk.cell 3;simp at d e;have l:=a.blk.frozen 3;obtain⟨_,n,rfl,m⟩|⟨f,_⟩:=a.l9
 .go_enter func105,ntmps105;go_wp2_with fail;refine h.out.mono ?_;rintro b q ⟨rfl,rfl⟩;go_wp2;all_goals(go_ret;exact⟨rfl,⟨_,_,_,_,_,_,a.χ ((a.blk.χ 3 _).to (by simp;rfl))⟩,(Ψ.refl w F).χ ((a.ak g).2 (.inl rfl)) _⟩)
 cases f
theorem aax(a:eR w g false false false F):ν δ 105 #[π (N (U g 0 A))] w λb c=>b=ξ (I E 11)/\eR c g false false true F/\Ψ w c F F:=by
 have i:=K (qX a);obtain⟨idle,o,l,p,k,j,a⟩:=a;have d:=a.blk.cell 0;have e:=a.blk.cell 3;have f:=a.blk.cell 4;simp at d e f;have m:=a.blk.frozen 4;obtain⟨h,_⟩|⟨_,rfl,n⟩:=a.l9
 .cases h
 go_enter func105,ntmps105;go_wp2_with fail;refine i.out.mono ?_;rintro b q ⟨rfl,rfl⟩;go_wp2;all_goals(go_ret;exact⟨rfl,⟨_,_,_,_,_,_,a.χ ((a.blk.χ 4 _).to (by simp;rfl))⟩,(Ψ.refl w F).χ ((a.ak g).2 (.inl rfl)) _⟩)
theorem aaf(a:eR w g false false false F):ν δ 255 #[π (N (U g 0 A))] w λd p=>d=ξ (I E 0)/\∃m,eR p g true false false m/\Ψ w p F m:=by
 have c:=K (qX a);obtain⟨idle,G,f,k,e,n,a⟩:=a;have r:=a.blk.cell 3;have q:=a.blk.cell 0;simp at r q;obtain⟨t,_⟩|⟨_,rfl,rfl⟩:=a.l9
 .cases t
 go_enter func255,ntmps255;go_wp2_with fail;refine c.out.mono ?_;rintro d H ⟨rfl,rfl⟩;go_wp2_with fail;refine(aaH _).mono ?_;rintro d z ⟨j,e,rfl,y,h⟩;have l:=h.keeps.blk a.blk (λa=>a);have B:=l.frozen 0;have s:=l.cell 0;simp at s;have i:∀b,e b->w.heap.size<=b:=λb c=>(h.fresh b c).elim (λa=>a.elim) id;have C:=a.blk.lt;have u:=(qP f k).lt a.jK;go_wp2;all_goals go_ret
 all_goals
  have o:=(Y.refl z (·=g)).χ (p:=(U g 0 A)) (.inl rfl) (π (N (U j 0 A)));refine⟨rfl,λb=>b=g\/e b\/n b,⟨idle,N (U j 0 A),f,k,e,n,⟨(l.χ 0 _).to (by simp),.inl ⟨rfl,j,rfl,(sK j).keeps y o λb c d=>by have:=i b c;omega⟩,(qP f k).keeps ((qP f k).keeps a.jK h.keeps λ_ _ a=>a) o λb c d=>a.g2 (d▸c),λc=>by have:=i g c;omega,a.g2,λb c x=>by have:=i b c;have:=u b x;omega,λb=>fT⟩⟩,⟨(h.keeps.any (F:=F)).χ (.inl ((a.ak g).2 (.inl rfl))) _,λb c=> ?_⟩⟩;obtain rfl|c|c:=c
  .exact .inl ((a.ak _).2 (.inl rfl))
  .exact .inr (i b c)
  .exact .inl ((a.ak b).2 (.inr (.inr c)))
def Su(c:Z)(g:Nat)(kept ar ae:Bool)(F:Bs)(d:aI)(w:Z):Prop:=
 ∃v b a,d=ξ (σ #[v,I E a])/\jw w c.heap.size v b/\b<=12/\eR w g kept (ar&&decide (a≠0)) ae F/\Ψ c w F F/\(a=0->kept=true/\ae=false)
theorem Vw(a:eR w g kept ar ae F)(l:Int)(B:eB l):ν δ 163 #[π (N (U g 0 A)),I Λ l] w (Su w g kept ar ae F):=by
 have b:=K (Hn a);cases c:(!ae&&kept) with
 |false=>rw[c] at b;go_enter func163,ntmps163;go_wp2_with fail;refine b.out.mono ?_;rintro i k ⟨rfl,rfl⟩;go_wp2;all_goals exact Ω (v:=σ #[V A 0 0,I E 11]) (by simp[ag,results163,go_sem]) rfl ⟨_,0,11,rfl,jw.nil _ _,by omega,by simpa using a,Ψ.refl w F,nofun⟩
 |true=>
  rw[c] at b;obtain⟨rfl,rfl⟩:ae=false/\kept=true:=by simpa using c
  obtain⟨idle,P,J,Q,H,G,a⟩:=a;obtain⟨_,O,rfl,z⟩|⟨y,_⟩:=a.l9
  .have t:=a.blk.cell 0;simp at t;have j:=K (UQ z l B);go_enter func163,ntmps163;go_wp2_with fail;refine b.out.mono ?_;rintro i k ⟨rfl,rfl⟩;go_wp2_with fail;refine j.out.mono ?_;rintro i k ⟨⟨v,f,M,rfl,j,o,b⟩,C,x⟩;obtain⟨d,p⟩:=a.CS C x;obtain⟨s,q,h,r⟩:=j;have hF:∀e,v.ownBlock=N e->e≠g:=λe c i=>by have:=(h.lt e c).1;have:=a.blk.lt;omega
   obtain⟨m,n,rfl⟩:=eX h;simp only[dD,xU,or_false] at b;obtain rfl|rfl:=b
   .have u:=d.blk.cell 3;simp at u;have L:=d.blk.frozen 3;go_wp2;all_goals exact Ω (v:=σ #[V m f n,I E 0]) (by simp[ag,results163,go_sem]) rfl ⟨_,f,0,rfl,⟨s,q,aD h ((Y.refl k (·=g)).χ (p:=(U g 3 A)) (.inl rfl) _) hF,r⟩,o,by simpa using⟨_,_,_,_,_,_,d.χ ((d.blk.χ 3 _).to (by simp;rfl))⟩,p.χ ((a.ak g).2 (.inl rfl)) _,λ_=>⟨rfl,rfl⟩⟩
   go_wp2;all_goals exact Ω (v:=σ #[V m f n,I E 10]) (by simp[ag,results163,go_sem]) rfl ⟨_,f,10,rfl,⟨s,q,h,r⟩,o,by simpa using⟨_,_,_,_,_,_,d⟩,p,nofun⟩
  cases y
end
theorem P6(p:fD w (V b k y) k a)(z:d<k):∃c e m,b=N (U c e A)/\a[d]? =N m/\w.cell? ⟨c,e+d,A⟩=N m:=by
 obtain⟨u,x,B,r,n,q,i⟩:=p;injection n with o s t;subst o;cases b with
 |none=>have:=(q rfl).1;omega
 |some f=>
  have l:d<a.length:=by omega
  have g:=(i f rfl).2 d a[d] (cT l);have j:=(i f rfl).1 (by omega);obtain⟨c,e,C⟩:=f;simp only at j;subst j;refine⟨c,e,a[d],rfl,cT l,?_⟩;unfold jm at g;by_cases h:d=0
  .simpa[h] using g
  simpa[h] using g
def jq(h:Z)(k:Nat)(g e m:Bool)(i:Bs)(l:Nat)(j:aI)(d:Z):Prop:=
 ∃v c a b,j=ξ (σ #[v,I E a])/\jw d h.heap.size v c/\c<=l/\(e=true->c=0)/\a∈[(0:Int),13]/\(a=13->g=true)/\eR d k g e (m||decide (a=13)) b/\Ψ h d i b/\∀f,v.ownBlock=N f->¬b f
theorem Vj(b:eR w y false f false j)(t:fD w x k a)(S:∀i∈a,gM i)(af:∀g,x.ownBlock=N g->¬j g)(aj:k<=100000):ν δ 363 #[π (N (U y 0 A)),x] w (jq w y false f false j k):=by
 obtain⟨idle,al,ad,e,ab,aa,b⟩:=b;obtain⟨an,ac,rfl⟩:=t.form;obtain⟨G,_⟩|⟨_,rfl,rfl⟩:=b.l9
 .cases G
 have ak:(k:Int)<=9223372036854775807:=by omega
 have d:=Y.refl w γ;go_enter func363,ntmps363;go_wp2;go_loopw [6,8,11] (λu _ r wr=>∃(c e:Nat) (l:List ε),c<=k/\r=I E c/\e<=c/\(f=true->e=0)/\wr.ownsRow w.heap.size 9 1 u e l/\(∀i∈l,gM i)/\Y w wr γ) (λ_ _ r _=>k-(aB r).toNat)
 case atStart=>exact⟨0,0,[],ai _,rfl,ai _,λ_=>rfl,db _ _ _ _,nofun,d⟩
 clear d;obtain⟨c,e,l,ah,rfl,P,m,h,p,d⟩:=hrel;have R:=d.size;have o:=b.keeps d (λ_ _ b=>b);by_cases M:c<k
 .have O:(c:Int)<k:=by omega
  obtain⟨g,u,i,rfl,q,ae⟩:=P6 (t.keeps d (λ_ _ b=>b)) M;obtain⟨s,rfl,Q⟩:=S i (ln q);have C:=o.blk.cell 0;have F:=o.blk.cell 3;simp at C F;cases f with
  |true=>obtain rfl:e=0:=m rfl;clear m;go_wp2;exact⟨⟨c+1,0,l,by omega,by go_num,by omega,λ_=>rfl,h,p,d⟩,by simp[aB];omega⟩
  |false=>
   obtain⟨ao,ap,X,W,T,am⟩:=nB w.heap.size h s (by omega) R;clear m;go_wp2_with (at_builtin;refine dy rfl (.tmp 38) (.tmp 40) 26 rfl rfl rfl X ?_);refine⟨⟨c+1,e+1,l++[H s],by omega,by go_num,by omega,nofun,W,λi q=> ?_,d.trans T λg n=> .inr (h.lt g n).1⟩,by simp[aB];omega⟩;obtain b|b:=dO.1 q
   .exact p i b
   simp at b;exact⟨s,b,Q⟩
 obtain rfl:c=k:=by omega
 have O:¬(c:Int)<c:=by omega
 obtain⟨z,B,rfl⟩:=eX h;have J:=K m;clear m;go_wp2;all_goals exact Ω (v:=σ #[V z e B,I E 0]) (by simp[ag,results363,go_sem]) rfl ⟨_,e,0,j,rfl,⟨l,by simpa using h.1,h,p⟩,P,J.out,by simp,nofun,by simpa using⟨_,_,_,_,_,_,o⟩,Ψ.bu d j,λg n L=>by have:=(h.lt g n).1;have:=b.lt g L;omega⟩
theorem Vi(d:eR w y true f false j)(S:fD w x k a)(au:∀m∈a,gM m)(al:∀c,x.ownBlock=N c->¬j c)(aJ:k<=100000):ν δ 363 #[π (N (U y 0 A)),x] w (jq w y true f false j k):=by
 obtain⟨idle,aw,ac,ax,J,aa,d⟩:=d;obtain⟨aQ,aF,rfl⟩:=S.form
 obtain⟨o,rfl⟩:∃o,aw=N (U o 0 A):=by
  obtain⟨_,o,b,_⟩|⟨C,_⟩:=d.l9
  .exact⟨o,b⟩
  .cases C
 have aK:(k:Int)<=9223372036854775807:=by omega
 have G0:=Ψ.refl w j;go_enter func363,ntmps363;go_wp2;go_loopw [6,8,11] (λay _ G wr=>∃(e g:Nat) (l:List ε),e<=k/\G=I E e/\g<=e/\(f=true->g=0)/\wr.ownsRow w.heap.size 9 1 ay g l/\(∀m∈l,gM m)/\iC wr y true f false idle j (N (U o 0 A)) ac ax J aa/\Ψ w wr j j) (λ_ _ G _=>k-(aB G).toNat)
 case atStart=>exact⟨0,0,[],ai _,rfl,ai _,λ_=>rfl,db _ _ _ _,nofun,d,G0⟩
 clear G0;obtain⟨e,g,l,aI,rfl,aq,n,i,t,r,G0⟩:=hrel;have aL:=G0.keeps.size;have q:∀c,u6.ownBlock=N c->¬j c:=λc b aj=>by have:=(i.lt c b).1;have:=d.lt c aj;omega
 by_cases ao:e<k
 .have ap:(e:Int)<k:=by omega
  obtain⟨c,aP,m,rfl,F,aH⟩:=P6 (S.keeps G0.keeps al) ao;obtain⟨u,rfl,T⟩:=au m (ln F);have ab:=r.blk.cell 0;simp at ab
  have R:mx wr o J:=by
   obtain⟨_,aN,b,an⟩|⟨C,_⟩:=r.l9
   .injection b with b;injection b with b;subst b;exact an
   cases C
  have L:=K (adk R u T);have n:=K n;go_wp2_with fail;refine L.out.mono ?_;rintro b aC ⟨⟨aS,rfl,aM,rfl,Q⟩,X,M⟩;clear L;obtain⟨h,O⟩:=r.CS X M;have s:=aD i O.keeps q;have p:=G0.trans O;clear R X M;simp only[dD,xU,or_false] at Q;obtain rfl|rfl:=Q
  .have ad:=h.blk.cell 3;simp at ad;cases f with
   |true=>obtain rfl:g=0:=n.out rfl;go_wp2;exact⟨⟨e+1,0,l,by omega,by go_num,by omega,λ_=>rfl,s,t,h,p⟩,by simp[aB];omega⟩
   |false=>
    obtain⟨aR,aT,aA,az,W,aO⟩:=nB w.heap.size s u (by omega) p.keeps.size;go_wp2_with (at_builtin;refine dy rfl (.tmp 38) (.tmp 40) 26 rfl rfl rfl aA ?_);refine⟨⟨e+1,g+1,l++[H u],by omega,by go_num,by omega,nofun,az,λm F=> ?_,h.keeps W λaE av b=>q aE b av,⟨p.keeps.trans W λc b=> .inr (i.lt c b).1,p.fresh⟩⟩,by simp[aB];omega⟩;obtain d|d:=dO.1 F
    .exact t m d
    simp at d;exact⟨u,d,T⟩
  have ae:=h.blk.cell 4;simp at ae;have aG:=h.blk.frozen 4;obtain⟨z,B,rfl⟩:=eX s;have am:=(Y.refl aC (·=y)).χ (p:=(U y 4 A)) (.inl rfl) (ι true);have P:j y:=(d.ak y).2 (.inl rfl);go_wp2;all_goals exact Ω (v:=σ #[V z g B,I E 13]) (by simp[ag,results363,go_sem]) rfl ⟨_,g,13,j,rfl,⟨l,by simpa using i.1,aD s am λc b af=>q c b (af▸P),t⟩,by omega,n.out,by simp,λ_=>rfl,⟨_,_,_,_,_,_,h.χ ((h.blk.χ 4 _).to (by simp;rfl))⟩,p.χ P _,q⟩
 obtain rfl:e=k:=by omega
 have ap:¬(e:Int)<e:=by omega
 obtain⟨z,B,rfl⟩:=eX i;have ah:=K n;clear n;go_wp2;all_goals exact Ω (v:=σ #[V z g B,I E 0]) (by simp[ag,results363,go_sem]) rfl ⟨_,g,0,j,rfl,⟨l,by simpa using i.1,i,t⟩,aq,ah.out,by simp,nofun,by simpa using⟨_,_,_,_,_,_,r⟩,G0,q⟩
theorem jw.form(c:jw w y x k):∃a b,x=V a k b:=by obtain⟨g,e,d,f⟩:=c;exact eX d
theorem jq.later{b d:Bool}{a:Bs}{n':Nat}(g:jq n y f b d a k X G)(c:Ψ w n j a)(B:k<=n'):jq w y f b d j n' X G:=by obtain⟨v,s,r,e,h,⟨z,t,u,x⟩,A,i,l,m,o,p,q⟩:=g;exact⟨v,s,r,e,h,⟨z,t,wU u c.keeps.size,x⟩,by omega,i,l,m,o,c.trans p,q⟩
theorem jq.none_{a b:Bool}{n:Nat}(c:eR w y f a b j):jq w y f a b j n (ξ (σ #[V A 0 0,I E 0])) w:=
 ⟨_,0,0,j,rfl,jw.nil _ _,ai _,λ_=>rfl,by simp,nofun,by simpa using c,Ψ.refl w j,nofun⟩
theorem Vh{b:Bool}(d:eR w y f b false j)(h:fD w x k a)(i:∀l∈a,gM l)(e:∀c,x.ownBlock=N c->¬j c)(g:k<=100000):ν δ 363 #[π (N (U y 0 A)),x] w (jq w y f b false j k):=by
 cases f with
 |true=>exact Vi d h i e g
 |false=>exact Vj d h i e g
theorem GU{B:Bool}(b:eR w y f B false j)(l:fD w x k a)(aq:∀e∈a,gM e)(ap:∀c,x.ownBlock=N c->¬j c/\c<w.heap.size)(aC:k<=1000):ν δ 317 #[π (N (U y 0 A)),x] w (jq w y f B false j (6+k)):=by obtain⟨idle,aF,aA,aG,az,ax,b⟩:=b;have C:=b.blk.cell 1;simp at C;have aB:=b.lt;obtain⟨t,o,rfl⟩:=l.form;go_enter func317,ntmps317;go_wp2_with fail;refine(Yt b.jK).mono ?_;rintro d g ⟨av,i,ay,rfl,⟨h,n,ab,ac⟩,aD,ao,H,aE⟩;obtain⟨G,am⟩:=b.Gz ao H;have O:fD g (V t k o) k a:=l.keeps H.keeps λc d p=>(ap c d).1 ((b.ak c).2 (.inr (.inr p)));have r:fD g av i h:=fD.dw (by rw[<-n];exact n▸ab) (DC ac);obtain⟨T,F,rfl⟩:=r.form;have m:Y g (g.alloc (ζ #[V T i F,V t k o] 26)) γ:=(Y.refl g γ).alloc _;have z:=K (Wr afv (θ.new g 26 #[V T i F,V t k o]) (r.keeps m λ_ _ b=>b) (O.keeps m λ_ _ b=>b) (by omega) (by omega));have L:h.length=i:=n;have M:a.length=k:=l.1;have J:=K (show(h++a).length=i+k by rw[cL,L,M]);have an:=G.lt;clear L M n ab r O l C;go_wp2_with fail;refine z.out.mono ?_;rintro d aa ⟨aw,rfl,s,R⟩;have al:=(G.keeps m λ_ _ b=>b).keeps R λ_ _ b=>b;have q:∀e∈h++a,gM e:=λe au=>(dO.1 au).elim (ac e) (aq e);have X:fD aa aw (h++a).length (h++a):=fD.dw s (DC q);have u:=Vh ⟨_,_,_,_,_,_,al⟩ X q (λc d p=>by have:=(s.lt c d).1;have:=an c p;simp at*;omega) (by rw[J.out];omega);have af:Ψ w aa j _:=(am.still m).still R;have ad:=K (u.mono λd aH b=>b.later af (n':=6+k) (by rw[J.out];omega));clear u X s q z;go_wp2_with fail;refine ad.out.mono ?_;rintro d aI ⟨x,S,Q,ae,rfl,P,W⟩;obtain⟨ai,aj,rfl⟩:=P.form;have ah:=K W;clear W;go_wp2;all_goals exact Ω (v:=σ #[V ai S aj,I E Q]) (by simp[ag,results317,go_sem]) rfl ⟨_,S,Q,ae,rfl,P,ah.out⟩
theorem YD{c:Bool}(b:eR w y f c true j)(e h:BA)(d:Bool):ν δ 311 #[π (N (U y 0 A)),H e,H h,ι d] w λa i=>a=ξ (σ #[V A 0 0,I E 11])/\w=i:=by have g:=K (qX b);clear b;go_enter func311,ntmps311;go_wp2_with fail;refine g.out.mono ?_;rintro a k ⟨rfl,rfl⟩;go_wp2;all_goals exact Ω (v:=σ #[V A 0 0,I E 11]) (by simp[ag,Aw,go_sem]) rfl ⟨rfl,rfl⟩
theorem acU(a:Z)(d:BA):fD (a.alloc (ζ #[H d] 9)) (V (N (U a.heap.size 0 A)) 1 1) 1 [H d]:=
 ⟨rfl,λi e=>by simp at e;subst e;rfl,_,_,rfl,nofun,λj b=>by
  injection b with b;subst b;refine⟨λ_=>rfl,λc i h=> ?_⟩;have f:((⟨a.heap.size,0,A⟩:ay).add c)=⟨a.heap.size,c,A⟩:=by unfold jm;by_cases g:c=0<;>simp[g]
  rw[f,(θ.new a 9 #[H d]).cell];simpa using h⟩
theorem P7(a:Z):fD a (V A 0 0) 0 []:=⟨rfl,nofun,_,_,rfl,λ_=>⟨rfl,rfl⟩,nofun⟩
theorem YB{s idle:Bool}{B z:Bs}(c:iC w y f s false idle j b k d B z)(F l:BA)(L:l.size<=most)(p:Bool)(G:(!p|| !idle)=true):
 ν δ 311 #[π (N (U y 0 A)),H F,H l,ι p] w (jq w y f s false j 7):=by
 have t:=K (qX ⟨_,_,_,_,_,_,c⟩);have x:Y w (w.alloc (ζ #[H l] 9)) γ:=(Y.refl w γ).alloc _;have r:=K ((GU ⟨_,_,_,_,_,_,c.keeps x λ_ _ c=>c⟩ (acU w l) (λP u=>by simp at u;exact⟨l,u,L⟩) (λR a=>by injection a with a;subst a;exact⟨λJ=>Nat.lt_irrefl _ (c.lt _ J),by simp⟩) (by omega)).mono λa Q e=>e.later (Ψ.bu x j) (Ο 7));have C:=c.blk.cell 2;simp at C;clear c;cases p with
 |false=>go_enter func311,ntmps311;go_wp2_with fail;refine t.out.mono ?_;rintro a M ⟨rfl,rfl⟩;go_wp2_with fail;refine r.out.mono ?_;rintro a O ⟨v,i,h,m,rfl,g,e⟩;obtain⟨o,q,rfl⟩:=g.form;have n:=K e;clear e;go_wp2;all_goals exact Ω (v:=σ #[V o i q,I E h]) (by simp[ag,Aw,go_sem]) rfl ⟨_,i,h,m,rfl,g,n.out⟩
 |true=>
  obtain rfl:idle=false:=by simpa using G
  go_enter func311,ntmps311;go_wp2_with fail;refine t.out.mono ?_;rintro a M ⟨rfl,rfl⟩;go_wp2_with fail;refine r.out.mono ?_;rintro a O ⟨v,i,h,m,rfl,g,e⟩;obtain⟨o,q,rfl⟩:=g.form;have n:=K e;clear e;go_wp2;all_goals exact Ω (v:=σ #[V o i q,I E h]) (by simp[ag,Aw,go_sem]) rfl ⟨_,i,h,m,rfl,g,n.out⟩
theorem YE{n:Bool}{Y W:Bs}(c:iC w y f n false true j b k d Y W)(q u:BA)(L:q.size<=Χ)(Q:u.size<=most):ν δ 311 #[π (N (U y 0 A)),H q,H u,ι true] w (jq w y f n false j 7):=by
 have ak:=K (qX ⟨_,_,_,_,_,_,c⟩);have ab:=K (Mp c.jK q u L Q);have ae:=c.blk.cell 1;have af:=c.blk.cell 2;simp at ae af;have aB:=c.lt;go_enter func311,ntmps311;go_wp2_with fail;refine ak.out.mono ?_;rintro e B ⟨rfl,rfl⟩;go_wp2_with fail;refine ab.out.mono ?_;rintro e B ⟨⟨ad,rfl⟩,aE,ax,G,M⟩;obtain⟨p,a⟩:=c.Gz G M;clear c G M;cases ad with
 |true=>have i:=K ((jq.none_ (n:=7) ⟨_,_,_,_,_,_,p⟩).later a (Ο _));clear p a;go_wp2;all_goals exact Ω (v:=σ #[V A 0 0,I E 0]) (by simp[ag,Aw,go_sem]) rfl i.out
 |false=>
  have S:=K (GU ⟨_,_,_,_,_,_,p⟩ (P7 B) nofun nofun (by omega));clear p;go_wp2_with fail;refine S.out.mono ?_;rintro e aq ⟨v,h,aC,T,rfl,t,am,l,z,P,⟨idle,ao,ah,ap,aa,X,g⟩,r,hv⟩;obtain⟨m,o,rfl⟩:=t.form;have al:=z;simp only[dD,xU,or_false] at z;obtain rfl|rfl:=z
  .have ai:=g.blk.cell 1;simp at ai;have ac:=K (Mp g.jK q u L Q);have l:=K l;go_wp2_with fail;refine ac.out.mono ?_;rintro e au ⟨⟨aA,rfl⟩,aF,az,J,O⟩;obtain⟨F,s⟩:=g.Gz J O;obtain⟨aw,R,C,av⟩:=t;have an:=a.keeps.size
   have i:=K (show jq w y f n false j 7 (ξ (σ #[V m h o,I E 0])) au from⟨_,h,0,_,rfl,⟨aw,R,wU (aD C s.keeps hv) an,av⟩,by omega,l.out,by simp,nofun,⟨_,_,_,_,_,_,by simpa using F⟩,(a.trans r).trans s,λx e aj=>by
    obtain h1|h1:=s.fresh x aj
    .exact hv x e h1
    have:=(C.lt x e).2;omega⟩)
   clear g F a r s J O R C;go_wp2;all_goals exact Ω (v:=σ #[V m h o,I E 0]) (by simp[ag,Aw,go_sem]) rfl i.out
  have i:=K (jq.later (n':=7) (show jq B y f n false _ 6 (ξ (σ #[V m h o,I E 13])) aq from⟨_,h,13,T,rfl,t,am,l,al,P,⟨idle,ao,ah,ap,aa,X,g⟩,r,hv⟩) a (by omega));clear g a r t l P;go_wp2;all_goals exact Ω (v:=σ #[V m h o,I E 13]) (by simp[ag,Aw,go_sem]) rfl i.out
theorem YA{e:Bool}(c:eR w y f e false j)(b d:BA)(i:b.size<=Χ)(h:d.size<=most)(a:Bool):ν δ 311 #[π (N (U y 0 A)),H b,H d,ι a] w (jq w y f e false j 7):=by
 obtain⟨idle,n,m,o,l,k,c⟩:=c;cases g:(!a|| !idle) with
 |true=>exact YB c b d h a g
 |false=>
  obtain⟨rfl,rfl⟩:a=true/\idle=true:=by simpa using g
  exact YE c b d i h
theorem ZC{c:Bool}(b:eR w y f c true j)(d:Bool):ν δ 257 #[π (N (U y 0 A)),ι d] w λa g=>a=ξ (σ #[V A 0 0,I E 11])/\w=g:=by have e:=K (qX b);clear b;go_enter func257,ntmps257;go_wp2_with fail;refine e.out.mono ?_;rintro a h ⟨rfl,rfl⟩;go_wp2;all_goals exact Ω (v:=σ #[V A 0 0,I E 11]) (by simp[ag,results257,go_sem]) rfl ⟨rfl,rfl⟩
theorem ZA{h:Bool}(a:eR w y f h false j)(b:Bool):ν δ 257 #[π (N (U y 0 A)),ι b] w (jq w y f h false j 7):=by
 have k:=K (qX a);obtain⟨idle,C,z,F,x,u,a⟩:=a;have s:=a.blk.cell 2;simp at s;have B:=a.blk.frozen 2;have d:=a.χ (idle':=b) (away':=h) (over':=false) (i:=2) (u:=ι b) ((a.blk.χ 2 _).to (by simp));have c:=(Ψ.refl w j).χ (p:=(U y 2 A)) ((a.ak y).2 (.inl rfl)) (ι b);cases b with
 |true=>have g:=K ((jq.none_ (n:=7) ⟨_,_,_,_,_,_,d⟩).later c (Ο _));clear a d c;go_enter func257,ntmps257;go_wp2_with fail;refine k.out.mono ?_;rintro i t ⟨rfl,rfl⟩;go_wp2;all_goals exact Ω (v:=σ #[V A 0 0,I E 0]) (by simp[ag,results257,go_sem]) rfl g.out
 |false=>have o:=K ((GU ⟨_,_,_,_,_,_,d⟩ (P7 _) nofun nofun (by omega)).mono λi G e=>e.later c (n':=7) (by omega));clear a d c;go_enter func257,ntmps257;go_wp2_with fail;refine k.out.mono ?_;rintro i t ⟨rfl,rfl⟩;go_wp2_with fail;refine o.out.mono ?_;rintro i H ⟨v,n,m,p,rfl,l,e⟩;obtain⟨q,r,rfl⟩:=l.form;have g:=K e;clear e;go_wp2;all_goals exact Ω (v:=σ #[V q n r,I E m]) (by simp[ag,results257,go_sem]) rfl ⟨_,n,m,p,rfl,l,g.out⟩
def mH:List BA:=[(D #[38]),(D #[38,97,109,112,59]),(D #[60]),(D #[38,108,116,59]),(D #[62]),(D #[38,103,116,59]),(D #[34]),(D #[38,113,117,111,116,59]),(D #[39]),(D #[38,97,112,111,115,59])]
def uU(a b d c:ε):Array ε:=#[a,b,I Λ 0,d,c]
theorem vg:zeroCells471.size=257/\(zeroCells471.all (·.oneCell')=true)/\(∀a,a<256->zeroCells471[a]? =N (V A 0 0))/\(prog.info? 471).map (·.size)=N 257:=by
 refine⟨by kernel_rfl,by kernel_rfl,?_,by kernel_rfl⟩;have:zeroCells471=(qz 257 (V A 0 0)).toArray:=by kernel_rfl
 intro a b;rw[this,Ρ,List.getElem?_replicate,ahM (by omega)]
noncomputable def kX(v:ε):Array ε:=(zeroCells471.toList.set 256 v).toArray
theorem aea(a:Z)(v:ε)(hv:v.oneCell'=true):(storeCells ⟨a.heap.size,0,A⟩ (zeroCells471.toList.set 256 v)).run δ (a.alloc (ζ zeroCells471 471))= .ok () (a.alloc (ζ (kX v) 471)):=by
 have b:(kX v).size=257:=by simp[kX,vg.1]
 have:=run_storeCells_new (P:=δ) a 471 zeroCells471 (kX v) (by rw[b];exact vg.2.2.2) (by rw[b];exact vg.1) (by
  rw[kX,List.all_toArray,List.all_eq_true];intro d c;obtain h|rfl:=List.mem_or_eq_of_mem_set c
  .exact(Array.all_eq_true_iff_forall_mem.mp vg.2.1) d (by simpa using h)
  exact hv)
 simpa[kX] using this
def gT:List Nat:=[39,34,62,60,38]
def dC(a:Nat):Nat:=if a=38 then 5 else if a=60 then 4 else if a=62 then 4 else if a=34 then 6 else if a=39 then 6 else 1
def Bo(d:Z)(b c:Nat):Prop:=∀a,a<c->∃e:UInt8,d.cell? (U b a A)=N (I bh e.toNat)
structure lX (w:Z) (base B k:Nat) (cs:Array ε) (tv:ε):Prop where
 blk:θ w B 471 cs
 size:cs.size=257
 last:cs[256]? =N tv
 row:w.ownsRow base 9 1 tv k ((gT.take k).map λc=>H ⟨#[lQ c]⟩)
 far:tv.ownBlock≠N B
 low:base<=B
 keys:∀c,c∈gT.take k->∃g cap,cs[c]? =N (V (N (U g 0 A)) (dC c) cap)/\Bo w g (dC c)/\base<=g/\g<w.heap.size/\g≠B/\tv.ownBlock≠N g
 rest:∀c,c<256->c∉gT.take k->cs[c]? =N (V A 0 0)
theorem V4(a:Z)(b:BA):∃e c,(convert 9 113 (H b)).run δ a= .ok (V (N (U a.heap.size 0 A)) b.size e) c/\Y a c γ/\Bo c a.heap.size b.size/\a.heap.size<c.heap.size:=by
 refine⟨_,_,run_bytes_of_string a 9 113 5 b lj iZ sZ,?_,?_,?_⟩
 .exact(Y.refl a γ).drew.alloc _
 .intro d f;rw[cell_of_row _ a.heap.size d _ 5 _ (heap_alloc_new a.drew _),bytesRow_at b _ d f];exact⟨_,rfl⟩
 show a.heap.size<(a.drew.alloc _).heap.size;simp
theorem abW(a:Z)(b:Nat)(f:b<256):(convert 113 9 (V (N (U a.heap.size 0 A)) 1 1)).run δ (a.alloc (ζ #[I bh b] 5))= .ok (H ⟨#[lQ b]⟩) (a.alloc (ζ #[I bh b] 5)):=by
 have:=run_convert_bytes_back (P:=δ) (a.alloc (ζ #[I bh b] 5)) 113 9 5 ⟨a.heap.size,0,A⟩ 1 [lQ b] iZ sZ lj (λe d=>by
  have:e=0:=by simpa using d
  subst this;have c:=(θ.new a 5 #[I bh b]).cell 0;show(a.alloc _).cell? (U a.heap.size 0 A)=_;rw[c];simp;omega)
 simpa using this
theorem aen(a:Z):lX ((a.alloc (ζ #[H (D #[]),H (D #[]),H (D #[]),H (D #[]),H (D #[])] 9)).alloc (ζ (kX (V (N (U a.heap.size 0 A)) 0 5)) 471)) a.heap.size (a.heap.size+1) 0 (kX (V (N (U a.heap.size 0 A)) 0 5)) (V (N (U a.heap.size 0 A)) 0 5):=by
 have e:zeroCells471.toList.length=257:=by rw[gI];exact vg.1
 refine⟨θ.dA a _ _ _,by simp[kX,vg.1],?_,?_,?_,by omega,λd c=>by simp at c,λd c _=> ?_⟩
 .rw[kX,Ρ,List.getElem?_set_self (by omega)]
 .have b:=(θ.new a 9 #[H (D #[]),H (D #[]),H (D #[]),H (D #[]),H (D #[])]).alloc (ζ (kX (V (N (U a.heap.size 0 A)) 0 5)) 471);exact⟨by simp,.inr ⟨a.heap.size,5,_,rfl,Ο _,b,by simp,by decide,by simp,by simp⟩⟩
 .intro b;injection b with b;simp at b
 rw[kX,Ρ,List.getElem?_set_ne (by omega),<-Array.getElem?_toList.symm];exact vg.2.2.1 d c
theorem X6(a:Nat)(f:a<5):∃(b:Nat) (c d:BA),mH[2*a]? =N c/\mH[2*a+1]? =N d/\(c.size=1/\∀e:0<c.size,(c[0]'e).toNat=b)/\d.size=dC b/\b<256/\gT.take (5-a)=gT.take (5-(a+1))++[b]/\b∉gT.take (5-(a+1)):=by
 have:a=0\/a=1\/a=2\/a=3\/a=4:=by omega
 rcases this with rfl|rfl|rfl|rfl|rfl<;>refine⟨_,_,_,rfl,rfl,⟨rfl,λ_=>rfl⟩,rfl,by decide,rfl,by decide⟩
theorem X7(a:y∈gT.take k):y<256:=by have:=List.mem_of_mem_take a;simp[gT] at this;omega
theorem aeo{a h:Z}(F:Y w n γ)(c:lX n w.heap.size y (5-(k+1)) q x)(am:d<256)(u:gT.take (5-k)=gT.take (5-(k+1))++[d])(ab:d∉gT.take (5-(k+1)))(s:Y n G γ)(ao:n.heap.size<G.heap.size)(X:M=5-k)(B:Y G a (λm=>x.ownBlock=N m))(O:a.ownsRow w.heap.size 9 1 i M ((gT.take (5-(k+1))).map (λd=>H ⟨#[lQ d]⟩)++[H ⟨#[lQ d]⟩]))(L:∀m,i.ownBlock=N m->x.ownBlock=N m\/G.heap.size<=m)(C:Y (a.setCell (U y 256 A) i) h γ)(R:Bo h (a.setCell (U y 256 A) i).heap.size (dC d))(aq:a.heap.size<h.heap.size)(o:Nat):Y w (h.setCell (U y d A) (V (N (U a.heap.size 0 A)) (dC d) o)) γ/\∃q x,lX (h.setCell (U y d A) (V (N (U a.heap.size 0 A)) (dC d) o)) w.heap.size y (5-k) q x:=by
 have aj:(a.setCell (U y 256 A) i).heap.size=a.heap.size:=by simp[eH]
 rw[aj] at R;generalize ad:(V (N (U a.heap.size 0 A)) (dC d) o)=nv;have al:=c.blk.lt;have ak:=B.size;have ae:Y n (a.setCell (U y 256 A) i) (λf=>x.ownBlock=N f\/f=y):=((s.any).trans B (λf g=> .inl (.inl g))).χ (.inl (.inr rfl)) i;have E:=(ae.trans C Η).χ (p:=(U y d A)) (.inl (.inr rfl)) nv;have T:θ a y 471 q:=B.blk (s.blk c.blk id) λe=>c.far e;have W:=(C.blk (T.χ 256 i) id).χ d nv;have af:Y a (h.setCell (U y d A) nv) (·=y):=((((Y.refl a (·=y)).χ (p:=(U y 256 A)) (.inl rfl) i).trans C Η).χ (p:=(U y d A)) (.inl rfl) nv)
 have J:i.ownBlock≠N y:=λe=>by
  obtain b|b:=L y e
  .exact c.far b
  omega
 have K:=c.size;have an:=E.size;refine⟨F.trans E ?_,_,_,W,by simp[K],?_,aD (by subst X;rw[u,lP];exact O) af λp aa l=>J (by rw[aa,l]),J,c.low,?_,?_⟩
 .rintro f (g|rfl)
  .exact .inr (c.row.lt f g).1
  exact .inr c.low
 .rw[tA (by omega),Array.getElem?_setIfInBounds_self_of_lt (by omega)]
 .intro j I;rw[u,dO,cj] at I;obtain b|rfl:=I
  .obtain⟨p,S,ag,ah,ai,ap,P,Q⟩:=c.keys j b;have ac:d≠j:=λl=>ab (l▸b);have:=X7 b;refine⟨p,S,by rw[tA ac,tA (by omega)];exact ag,λz t=> ?_,ai,by omega,P,λe=> ?_⟩
   .obtain⟨f,g⟩:=ah z t;exact⟨f,az E g (λe=>e.elim Q P)⟩
   obtain b|b:=L p e
   .exact Q b
   omega
  refine⟨a.heap.size,o,by rw[Array.getElem?_setIfInBounds_self_of_lt (by simp[K];omega),ad],λz t=> ?_,?_,?_,by omega,λe=> ?_⟩
  .obtain⟨f,g⟩:=R z t;exact⟨f,az ((Y.refl h (·=y)).χ (p:=(U y j A)) (.inl rfl) nv) g (by omega)⟩
  .have:=F.size;have:=s.size;omega
  .simp[eH];omega
  have:=(O.lt _ e).2;omega
 intro j b r;rw[u,dO,cj,not_or] at r;rw[tA (λl=>r.2 l.symm),tA (by omega)];exact c.rest j b r.1
theorem V3(ac:θ w y 441 (uU x i t (V (N (U k 0 A)) 10 d)))(ab:∀ad g,mH[ad]? =N g->w.cell? (U k ad A)=N (H g)):ν δ 396 #[π (N (U y 0 A))] w λan ah=>∃a,an=ξ (.iface 472 (π (N (U a 0 A))))/\Y w ah γ/\w.heap.size<=a/\∃l h,lX ah w.heap.size a 5 l h:=by
 have aU:w.cell? (U y 4 A)=N (V (N (U k 0 A)) 10 d):=by rw[ac.cell];rfl
 have p:=K ab;have aM:∀w:Z,(Ej 26 (I E 0) (I E 5)).run δ w= .ok (V (N (U w.heap.size 0 A)) 0 5) (w.alloc (ζ #[H (D #[]),H (D #[]),H (D #[]),H (D #[]),H (D #[])] 9)):=λ_=>by kernel_rfl
 clear ac ab;go_enter func396,ntmps396;go_wp2;go_loopg [4,5] 5 (λb u aw wr=>∃c:Nat,b+c=5/\u=ι (decide (c=0))/\aw=I E (2*c:Nat)/\wr=w)
 case atStart=>exact⟨0,rfl,rfl,rfl,rfl⟩
 obtain⟨c,aL,rfl,rfl,ar⟩:=hrel;obtain rfl:=ar.symm;cases gk with
 |zero=>
  obtain rfl:c=5:=by omega
  have u:=aea (w.alloc (ζ #[H (D #[]),H (D #[]),H (D #[]),H (D #[]),H (D #[])] 9)) (V (N (U w.heap.size 0 A)) 0 5) rfl;rw[show(w.alloc (ζ #[H (D #[]),H (D #[]),H (D #[]),H (D #[]),H (D #[])] 9)).heap.size=w.heap.size+1 from by simp] at u;go_wp2;have S:Y w ((w.alloc (ζ #[H (D #[]),H (D #[]),H (D #[]),H (D #[]),H (D #[])] 9)).alloc (ζ (kX (V (N (U w.heap.size 0 A)) 0 5)) 471)) γ:=((Y.refl w γ).alloc _).alloc _;have T:lX ((w.alloc (ζ #[H (D #[]),H (D #[]),H (D #[]),H (D #[]),H (D #[])] 9)).alloc (ζ (kX (V (N (U w.heap.size 0 A)) 0 5)) 471)) w.heap.size (w.heap.size+1) 0 (kX (V (N (U w.heap.size 0 A)) 0 5)) (V (N (U w.heap.size 0 A)) 0 5):=aen w;generalize(w.alloc (ζ #[H (D #[]),H (D #[]),H (D #[]),H (D #[]),H (D #[])] 9)).alloc (ζ (kX (V (N (U w.heap.size 0 A)) 0 5)) 471)=aW at*;generalize W:w.heap.size+1=a at*;have TT:=K (Φ S T);have aj:=K W;clear S T u W;go_loopg [12,13,14] 5 (λb av _ _ ai=>av=I E (2*(b:Int)-2)/\b<=5/\η (Y w ai γ/\∃l h,lX ai w.heap.size a (5-b) l h))
  case atStart=>exact⟨rfl,by omega,K ⟨TT.out.1,_,_,TT.out.2⟩⟩
  obtain⟨rfl,aK,o⟩:=hrel;cases gk with
  |zero=>go_wp2;go_ret;exact⟨a,rfl,o.out.1,by have:=aj.out;omega,o.out.2⟩
  |succ b=>
   obtain⟨d,g,f,M,O,⟨aO,aN⟩,P,r,ap,L⟩:=X6 b (by omega);obtain⟨m,l,h,e⟩:=o.out;rw[show(2*((b+1:Nat):Int)-2)=((2*b:Nat):Int) from by omega];have aQ:((2*b:Nat):Int)<10:=by omega
   have aR:((2*b+1:Nat):Int)<10:=by omega
   have al:wr.cell? ⟨k,2*b,A⟩=N (H g):=az m (p.out _ _ M) id;have am:wr.cell? ⟨k,2*b+1,A⟩=N (H f):=az m (p.out _ _ O) id;have ay:wr.cell? (U a 256 A)=N h:=by rw[e.blk.cell];exact e.last
   have aA:wr.cell? (U a d A)=N (V A 0 0):=by rw[e.blk.cell];exact e.rest d r L
   have aB:wr.frozen? (U a 256 A)=false:=e.blk.frozen _;have aC:wr.frozen? (U a d A)=false:=e.blk.frozen _;have aJ:(d:Int)<256:=by omega
   have aP:(g.size:Int)=1:=by omega
   have aT:∀w,(binOp .eql 113 (V A 0 0) (V A 0 0)).run δ w= .ok (ι true) w:=λ_=>by kernel_rfl
   have aE:=abW wr d r;have n:Y wr (wr.alloc (ζ #[I bh d] 5)) γ:=(Y.refl wr γ).alloc _;obtain⟨aV,j,af,s,Q,ae⟩:=nB w.heap.size (aD e.row n λ_ _ G=>G) ⟨#[lQ d]⟩ (by omega) (by have:=m.size;have:=n.size;omega);generalize ao:5-(b+1)+1=Nn at s;have aa:Nn=5-b:=by omega
   obtain⟨B,C,aq⟩:=eX s;subst aq;rw[show(wr.alloc (ζ #[I bh d] 5)).heap.size=wr.heap.size+1 from by simp] at af;have q:θ j a 471 l:=Q.blk (n.blk e.blk id) λG=>e.far G;have aF:j.cell? (U a 256 A)=N h:=by rw[q.cell];exact e.last
   have aG:j.frozen? (U a 256 A)=false:=q.frozen _;have X:=q.χ 256 (V B Nn C);obtain⟨F,z,au,R,ag,a0⟩:=V4 (j.setCell (U a 256 A) (V B Nn C)) f;have J:=R.blk X id;have ax:(j.setCell (U a 256 A) (V B Nn C)).heap.size=j.heap.size:=by simp[eH]
   rw[ax] at au;have aH:z.cell? (U a d A)=N (V A 0 0):=by rw[J.cell,tA (by omega)];exact e.rest d r L
   have aI:z.frozen? (U a d A)=false:=J.frozen _;have ak:η (Y w (z.setCell (U a d A) (V (N (U j.heap.size 0 A)) f.size F)) γ/\∃l h,lX (z.setCell (U a d A) (V (N (U j.heap.size 0 A)) f.size F)) w.heap.size a (5-b) l h):=K (P▸aeo m e r ap L n (by simp) aa Q s ae R (P▸ag) (by omega) F);clear P ao aa m e o q X J R ag s Q ae n;go_wp2_with (at_builtin;refine dy rfl (.tmp 119) (.tmp 123) 26 rfl rfl rfl af ?_);go_roundg b
   case measure=>omega
   case rel=>exact⟨by go_num,by omega,ak⟩
 |succ b=>
  have e0:∃g f:BA,mH[2*c]? =N g/\mH[2*c+1]? =N f/\g.size=1/\f.size≠1/\f.size<=6:=by
   have:c=0\/c=1\/c=2\/c=3\/c=4:=by omega
   rcases this with rfl|rfl|rfl|rfl|rfl<;>exact⟨_,_,rfl,rfl,rfl,by decide,by decide⟩
  obtain⟨g,f,M,O,aX,aY,aZ⟩:=e0;have al:=p.out _ _ M;have am:=p.out _ _ O;have lt:((2*c:Nat):Int)<10:=by omega
  have aS:¬((f.size:Int)=1):=by omega
  go_wp2;go_roundg b
  case measure=>omega
  case rel=>exact⟨c+1,by omega,by simp,by simp;omega,rfl⟩
structure FY (w:Z) (base R O:Nat) (c:Nat):Prop where
 blk:θ w R 441 (uU (I Λ 0) (I .i32 0) .nilIface (V (N (U O 0 A)) 10 c))
 fS:∀j x,mH[j]? =N x->w.cell? (U O j A)=N (H x)
 low:base<=R
 ne:R≠O
theorem X5(a:Z):ν δ 352 #[] a λs q=>∃k c d,s=ξ (π (N (U k 0 A)))/\FY q a.heap.size k c d/\Y a q γ:=by
 obtain⟨z,C,E,F,G⟩:=info_parts zU;have hblk:θ (a.alloc (ζ (mH.map H).toArray 9)) a.heap.size 9 (mH.map H).toArray:=θ.new _ _ _
 obtain⟨v,e,p,i,m,B⟩:=yG (w:=a.alloc (ζ (mH.map H).toArray 9)) a.heap.size 26 26 9 z _ 1 16 zV C E F G rfl (by decide) (V A 0 0) 0 [] (db _ _ _ _) ⟨a.heap.size,0,A⟩ 10 10 (mH.map H) rfl (λb J o=>by
  have t:((⟨a.heap.size,0,A⟩:ay).add b)=⟨a.heap.size,b,A⟩:=by unfold jm;by_cases w:b=0<;>simp[w]
  rw[t,hblk.cell];simpa using o) (λJ y=>by obtain⟨f,_,rfl⟩:=eO.1 y;rfl) (by decide) (by decide) (by simp)
 have j:Y a e γ:=((Y.refl a γ).alloc _).trans (Y.jy m (F:=γ) λM g=>by cases g) Η
 obtain⟨c,d,hv⟩:∃c d,v=V (N (U c 0 A)) 10 d:=by
  obtain⟨_,g⟩|⟨u,r,L,g,_⟩:=i.2
  .cases g
  .exact⟨u,r,g⟩
 subst hv;have n:∀b f,mH[b]? =N f->e.cell? (U c b A)=N (H f):=λb f h=>by have o:b<10:=(iN.1 h).1;rw[i.cellAt b (by omega)];simp[h]
 have x:=i.lt c rfl
 have l:=K (show FY (e.alloc (ζ (uU (I Λ 0) (I .i32 0) .nilIface (V (N (U c 0 A)) 10 d)) 441)) a.heap.size e.heap.size c d/\Y a (e.alloc (ζ (uU (I Λ 0) (I .i32 0) .nilIface (V (N (U c 0 A)) 10 d)) 441)) γ from
  ⟨⟨θ.new _ _ _,λb f h=>az ((Y.refl e γ).alloc _) (n b f h) id,j.size,by omega⟩,j.alloc _⟩)
 clear i m B j n x hblk;simp only[mH,lm,nX] at p;go_enter func352,ntmps352;go_wp2_with (first|(at_builtin;refine dy rfl (.const (V A 0 0)) (.tmp 8) 26 rfl rfl rfl p ?_)|(go_at_call 376;go_in));go_ret;exact⟨_,_,_,rfl,l.out.1,l.out.2⟩
theorem lX.keeps{w i:Z}{F:Bs}(a:lX w y k d q x)(b:Y w i F)(e:∀c,y<=c->¬F c):lX i y k d q x where
 blk:=b.blk a.blk (e k a.low)
 size:=a.size
 last:=a.last
 row:=aD a.row b λf m=>e f (a.row.lt f m).1
 far:=a.far
 low:=a.low
 keys:=λj n=>by obtain⟨g,l,s,t,h,u,z,A⟩:=a.keys j n;refine⟨g,l,s,λr o=> ?_,h,dQ u b.size,z,A⟩;obtain⟨c,p⟩:=t r o;exact⟨c,az b p (e g h)⟩
 rest:=a.rest
structure Fj (w:Z) (base R:Nat) (a b:ε) (B:Nat) (cs:Array ε) (tv:ε):Prop where
 blk:θ w R 441 #[a,b,I Λ 0,.iface 472 (π (N (U B 0 A))),V A 0 0]
 τ:lX w base B 5 cs tv
theorem V1{w:Z}{O c:Nat}{a b r:ε}(l:θ w y 441 (uU a b r (V (N (U O 0 A)) 10 c)))(q:∀s i,mH[s]? =N i->w.cell? (U O s A)=N (H i)):ν δ 378 #[π (N (U y 0 A))] w λk t=>k=ξ (σ #[])/\Y w t (·=y)/\∃e g h,Fj t w.heap.size y a b e g h:=by
 have o:=K (V3 l q);have j:=K l;clear l q;go_enter func378,ntmps378;go_wp2_with fail;refine o.out.mono ?_;rintro k d ⟨e,rfl,m,G,g,h,p⟩;have f:=m.blk j.out id;have B:d.cell? (U y 3 A)=N r:=by rw[f.cell];rfl
 have E:d.frozen? (U y 3 A)=false:=f.frozen _;have C:(d.setCell (U y 3 A) (.iface 472 (π (N (U e 0 A))))).cell? (U y 4 A)=N (V (N (U O 0 A)) 10 c):=by rw[(f.χ 3 _).cell];rfl
 have F:(d.setCell (U y 3 A) (.iface 472 (π (N (U e 0 A))))).frozen? (U y 4 A)=false:=(f.χ 3 _).frozen _;have I:=j.out.lt;have n:Y d ((d.setCell (U y 3 A) (.iface 472 (π (N (U e 0 A))))).setCell (U y 4 A) (V A 0 0)) (·=y):=((Y.refl d (·=y)).χ (p:=(U y 3 A)) (.inl rfl) _).χ (p:=(U y 4 A)) (.inl rfl) _;have x:=K (show Y w ((d.setCell (U y 3 A) (.iface 472 (π (N (U e 0 A))))).setCell (U y 4 A) (V A 0 0)) (·=y)/\∃u g h,Fj ((d.setCell (U y 3 A) (.iface 472 (π (N (U e 0 A))))).setCell (U y 4 A) (V A 0 0)) w.heap.size y a b u g h from by refine⟨m.any.trans n λi z=> .inl z,e,g,h,((f.χ 3 _).χ 4 _).to (by simp[uU]),p.keeps n (λi J k=> ?_)⟩;omega);clear n f p m o j;go_wp2;go_end0
 exact⟨rfl,x.out⟩
theorem WE(b:BA)(a:UInt8)(c:Z):ν δ 470 #[H b,H ⟨#[a]⟩] c λd e=>d=ξ (I E (Lib.countByte b.data.toList a))/\e=c:=by go_enter func470,ntmps470;go_wp2;rw[run_callFunc_extern func472 (by kernel_rfl) (by kernel_rfl) (by kernel_rfl) (e:=Extern.BytealgCount.count) (by kernel_rfl),Lib.run_countString];simp only[Az];rw[Oper.upon_value];go_wp2;go_ret;exact⟨rfl,rfl⟩
def bO:List UInt8->Nat
 |[]=>0
 |a::b=>dC a.toNat+bO b
theorem xE(a:Nat):1<=dC a/\dC a<=6:=by unfold dC;split<;>(try split)<;>(try split)<;>(try split)<;>(try split)<;>omega
theorem DG(a:List UInt8):a.length<=bO a/\bO a<=6*a.length:=by
 induction a with
 |nil=>simp[bO]
 |cons b a c=>have:=xE b.toNat;simp only[bO,eI];omega
theorem QL(a b:List UInt8):bO (a++b)=bO a+bO b:=by
 induction a with
 |nil=>simp[bO]
 |cons d a c=>simp only[List.cons_append,bO,c];omega
def l7(c:List UInt8)(b:Nat):Nat:=((gT.take b).map λa=>countByte c (lQ a)*(dC a-1)).sum
theorem YI(a:UInt8)(h:List UInt8):l7 (a::h) 5=l7 h 5+(dC a.toNat-1):=by
 simp only[l7,gT,xW,List.map,xV,AN,countByte,List.count_cons];by_cases c:a=39
 .subst c;simp[dC];omega
 by_cases d:a=34
 .subst d;simp[dC];omega
 by_cases e:a=62
 .subst e;simp[dC];omega
 by_cases f:a=60
 .subst f;simp[dC];omega
 by_cases g:a=38
 .subst g;simp[dC];omega
 have i:dC a.toNat=1:=by have j:a.toNat≠39:=λb=>c (UInt8.toNat_inj.mp b);have k:a.toNat≠34:=λb=>d (UInt8.toNat_inj.mp b);have l:a.toNat≠62:=λb=>e (UInt8.toNat_inj.mp b);have m:a.toNat≠60:=λb=>f (UInt8.toNat_inj.mp b);have n:a.toNat≠38:=λb=>g (UInt8.toNat_inj.mp b);simp[dC,j,k,l,m,n]
 simp[i,c,d,e,f,g]
theorem Nz(a:List UInt8):a.length+l7 a 5=bO a:=by
 induction a with
 |nil=>rfl
 |cons b a c=>rw[YI];simp only[bO,eI];have:=(xE b.toNat).1;omega
theorem YK(d:List UInt8)(c a:Nat)(e:gT[c]? =N a):l7 d (c+1)=l7 d c+countByte d (lQ a)*(dC a-1):=by have b:=(iN.1 e);obtain⟨b,rfl⟩:=b;simp only[l7,lq b,lP,List.sum_append,lm,nX,xV,AN];omega
theorem YJ(a:List UInt8){k:Nat}(b:k<=5):a.length+l7 a k<=bO a:=by
 rw[<-Nz]
 have:l7 a k<=l7 a 5:=by
  have:k=0\/k=1\/k=2\/k=3\/k=4\/k=5:=by omega
  rcases this with rfl|rfl|rfl|rfl|rfl|rfl<;>simp[l7,gT]<;>omega
 omega
theorem I'(b:List UInt8)(a:Nat)(c:a<b.length):bO (b.take (a+1))=bO (b.take a)+dC (b[a]'c).toNat:=by rw[lq c,QL];simp[bO]
theorem I9(a:List UInt8)(b:Nat):bO (a.take b)<=bO a:=by have:=QL (a.take b) (a.drop b);rw[List.take_append_drop] at this;omega
theorem adI(e:Bo w y k):∃c:List UInt8,c.length=k/\∀b d,c[b]? =N d->w.cell? (U y b A)=N (I bh d.toNat):=by
 induction k with
 |zero=>exact⟨[],rfl,λb d a=>by simp at a⟩
 |succ k j=>
  obtain⟨c,g,h⟩:=j λb f=>e b (by omega);obtain⟨l,i⟩:=e k (by omega);refine⟨c++[l],by simp[g],λb d a=> ?_⟩;by_cases f:b<c.length
  .rw[List.getElem?_append_left f] at a;exact h b d a
  rw[List.getElem?_append_right (by omega)] at a;have:b-c.length=0:=by have:=(iN.1 a).1;simp at this;omega
  rw[this] at a;injection a with a;subst a;rw[show b=k by omega];exact i
theorem aht(a:y∉gT):dC y=1:=by simp[gT] at a;simp[dC,a]
def Up(b:Z)(c a:Nat):Prop:=(∃(e h:Nat) (g:List UInt8),b.cell? (U c a A)=N (V (N (U e 0 A)) (dC a) h)/\g.length=dC a/\∀f (d:UInt8),g[f]? =N d->b.cell? (U e f A)=N (I bh d.toNat))\/(b.cell? (U c a A)=N (V A 0 0)/\dC a=1)
theorem lX.at_(b:lX w y k 5 q x)(a:Nat)(h:a<256):Up w k a:=by
 by_cases c:a∈gT
 .obtain⟨e,d,j,l,_⟩:=b.keys a (by rw[mo (by simp[gT])];exact c);obtain⟨i,f,g⟩:=adI l;exact .inl ⟨e,d,i,by rw[b.blk.cell];exact j,f,g⟩
 exact .inr ⟨by rw[b.blk.cell];exact b.rest a h (by rw[mo (by simp[gT])];exact c),aht c⟩
theorem abD(c d b:Nat)(a:Z):(binOp .neq 113 (V (N (U c 0 A)) d b) (V A 0 0)).run δ a= .ok (ι true) a:=by kernel_rfl
theorem Z4(a:Z):(binOp .neq 113 (V A 0 0) (V A 0 0)).run δ a= .ok (ι false) a:=by kernel_rfl
theorem ae5:(prog.info? 5).map (λa=>(a.zero,a.size,a.bytes))=N (N (I bh 0),1,1):=by kernel_rfl
theorem Pg(a:Z)(g:y<=60000):(Ej 113 (I E y) (I E y)).run δ a= .ok (V (N (U a.heap.size 0 A)) y y) (a.alloc (ζ (madeCells (I bh 0).cells y) 5)):=by obtain⟨b,c,d,e,f⟩:=info_parts ae5;have:=run_make (P:=δ) a 113 5 b (I bh 0) iZ c d E E y y (by omega) (by omega) (by rw[f];omega) (by omega);rw[e] at this;simpa using this
def mq(d:Z)(b c:Nat):Prop:=∃a:List UInt8,a.length=c/\d.heap[b]? =N (ζ (a.map λe=>I bh e.toNat).toArray 5 (0,0))
theorem LN(b:Z)(a:Nat):mq (b.alloc (ζ (madeCells (I bh 0).cells a) 5)) b.heap.size a:=by
 refine⟨qz a 0,by simp,?_⟩
 have c:(madeCells (I bh 0).cells a)=(List.map (λe:UInt8=>I bh e.toNat) (qz a 0)).toArray:=by
  apply Array.ext
  .simp[madeCells]
  intro h f g;have d:(I bh 0).cells=#[I bh 0]:=rfl;simp[madeCells,d,Nat.mod_one]
 rw[c];exact heap_alloc_new b _
theorem LQ(c:mq w y k)(a:UInt8):mq (w.setCell (U y d A) (I bh a.toNat)) y k:=by obtain⟨b,e,f⟩:=c;refine⟨b.set d a,by simp[e],?_⟩;have:=θ.χ (show θ w y 5 _ from f) d (I bh a.toNat);rw[show((List.map (λa:UInt8=>I bh a.toNat) b).toArray.setIfInBounds d (I bh a.toNat))=(List.map (λa:UInt8=>I bh a.toNat) (b.set d a)).toArray by simp[List.map_set]] at this;exact this
theorem LJ(b:mq w y k)(e:d<k):(∃g:UInt8,w.cell? (U y d A)=N (I bh g.toNat))/\w.frozen? (U y d A)=false:=by obtain⟨f,c,a⟩:=b;refine⟨⟨f[d]'(by omega),?_⟩,θ.frozen (show θ w y 5 _ from a) d⟩;rw[θ.cell (show θ w y 5 _ from a)];simp[c,e]
theorem LR(e:mq w y k):∃c:BA,c.size=k/\(convert 113 9 (V (N (U y 0 A)) k k)).run δ w= .ok (H c) w:=by
 obtain⟨a,rfl,g⟩:=e;refine⟨⟨a.toArray⟩,by show a.toArray.size=_;simp,run_convert_bytes_back w 113 9 5 ⟨y,0,A⟩ a.length a iZ sZ lj λb h=> ?_⟩;have d:((⟨y,0,A⟩:ay).add b)=⟨y,b,A⟩:=by unfold jm;by_cases f:b=0<;>simp[f]
 rw[d,θ.cell (show θ w y 5 _ from g)];simp[h]
theorem LL{w:Z}{J rg rc:Nat}{rl:List UInt8}(i:mq w y k)(p:J+rl.length<=k)(n:∀b (a:UInt8),rl[b]? =N a->w.cell? (U rg b A)=N (I bh a.toNat)):∃g,(Builtin.copy_ #[113,113] 3 #[V (N (U y J A)) (k-J) (k-J),V (N (U rg 0 A)) rl.length rc]).run δ w= .ok (I E rl.length) g/\mq g y k/\Y w g (·=y):=by
 obtain⟨f,l,d⟩:=i;have r:=θ.lt (show θ w y 5 _ from d)
 have o:=run_copy_row (P:=δ) w 113 113 3 5 y J (k-J) (k-J) ⟨rg,0,A⟩ rl.length rc _ 5 (rl.map λa=>I bh a.toNat) iZ (by kernel_rfl) d (by rw[List.length_map];exact(AU (by omega)).symm) (λb v c=>by
  have h:((⟨rg,0,A⟩:ay).add b)=⟨rg,b,A⟩:=by unfold jm;by_cases j:b=0<;>simp[j]
  rw[h];rw[ml] at c;cases e:rl[b]? with
  |none=>rw[e] at c;cases c
  |some a=>rw[e] at c;injection c with c;rw[<-c];exact n b a e) (by simp;omega) (λv hv=>by obtain⟨a,_,rfl⟩:=eO.1 hv;rfl)
 refine⟨_,by simpa[goInt] using o,⟨splice f J rl,by rw[length_splice _ _ _ (by omega)];exact l,?_⟩,?_⟩
 .have:=setRow_heap w y _ ((xW J (f.map λa=>I bh a.toNat)++(rl.map λa=>I bh a.toNat)++List.drop (J+rl.length) (f.map λa=>I bh a.toNat))).toArray 5 _ d;simpa[splice,List.map_take,List.map_drop] using this
 have q:=below_setRow (B:=y) (g:=y) (w0:=w) (w:=w) (iz _ _) (Ο _);exact⟨rfl,rfl,rfl,by simp[World.setRow],λt s m=>by simp[World.setRow,Jz,Ne.symm m]⟩
theorem acY(P:lX w y k 5 q x)(a:BA)(a1:a.size<=10000):ν δ 468 #[π (N (U k 0 A)),H a] w λan aD=>(∃F:BA,an=ξ (H F)/\F.size<=6*a.size)/\Y w aD γ:=by
 obtain⟨ai,aC,htv⟩:∃ai aC,x=V (N (U ai 0 A)) 5 aC:=by
  obtain⟨_,aa⟩|⟨f,aR,a9,aa,_⟩:=P.row.2
  .cases aa
  .exact⟨f,aR,aa⟩
 subst htv;have a8:w.cell? (U k 256 A)=N (V (N (U ai 0 A)) 5 aC):=by rw[P.blk.cell];exact P.last
 have aN:=K (show ∀j d,gT[j]? =N d->w.cell? (U ai j A)=N (H ⟨#[lQ d]⟩)/\d<256/\(lQ d).toNat=d from λj d ac=>by
  have bj:j<5:=(iN.1 ac).1;refine⟨?_,?_⟩
  .rw[P.row.cellAt j (by omega),mo (by simp[gT]),ml,ac];rfl
  have:j=0\/j=1\/j=2\/j=3\/j=4:=by omega
  rcases this with rfl|rfl|rfl|rfl|rfl<;>(injection ac with ac;subst ac;decide))
 have ak:=K (λd l=>P.at_ d l);clear P;have r:=K (show bO a.data.toList<=60000 from aJ (DG _).2 (by rw[gI];have:a.data.size=a.size:=rfl;omega));have bn:=abD;have bo:=Z4;go_enter func468,ntmps468;by_cases bg:(40:Int)<=a.size
 .go_wp2;go_loopg [5,6,8,9,32] 5 (λf aA aB _ _ a4 p=>∃(b:Nat) (any:Bool) (h:Nat),f+b=5/\a4=I E b/\aA=I E ((a.size:Int)+(l7 a.data.toList b:Nat))/\aB=ι any/\p=w.drewN h)
  case atStart=>exact⟨0,false,0,rfl,rfl,by simp[l7],rfl,rfl⟩
  obtain⟨b,any,h,ar,rfl,rfl,rfl,rfl⟩:=hrel;cases gk with
  |zero=>
   obtain rfl:b=5:=by omega
   have T:(a.size:Int)+(l7 a.data.toList 5:Nat)=(bO a.data.toList:Nat):=by rw[<-Nz,gI];exact(Int.natCast_add _ _).symm
   rw[T];clear T;cases any with
   |false=>go_wp2;go_ret;exact⟨⟨a,rfl,by omega⟩,(Y.refl w γ).drewN h⟩
   |true=>
    have mk:(Ej 113 (I E (bO a.data.toList:Nat)) (I E (bO a.data.toList:Nat))).run δ (w.drewN h)= .ok (V (N (U w.heap.size 0 A)) (bO a.data.toList) (bO a.data.toList)) ((w.drewN h).alloc (ζ (madeCells (I bh 0).cells (bO a.data.toList)) 5)):=Pg _ r.out;go_wp2;clear mk;have O:=K (LN (w.drewN h) (bO a.data.toList));have S:=K (show Y w ((w.drewN h).alloc (ζ (madeCells (I bh 0).cells (bO a.data.toList)) 5)) γ from((Y.refl w γ).drewN h).alloc _);have a2:(w.drewN h).heap.size=w.heap.size:=rfl;rw[a2] at O;rw[show(I bh 0).cells=#[I bh 0] from rfl] at O S;generalize(w.drewN h).alloc (ζ (madeCells #[I bh 0] (bO a.data.toList)) 5)=a5 at*;go_loopg [13,14,15] a.size (λf ax ay _ p=>∃b:Nat,f+b=a.size/\ax=I E (bO (a.data.toList.take b):Nat)/\ay=I E b/\η (Y w p γ/\mq p w.heap.size (bO a.data.toList)))
    case atStart=>exact⟨0,by omega,by simp[bO],rfl,K ⟨S.out,O.out⟩⟩
    obtain⟨b,ar,rfl,rfl,J⟩:=hrel;cases gk with
    |zero=>
     obtain rfl:b=a.size:=by omega
     obtain⟨F,ad,aZ⟩:=LR J.out.2;have Q:=K (show F.size<=6*a.size/\Y w wr γ from⟨by rw[ad];have:=(DG a.data.toList).2;rw[gI] at this;exact this,J.out.1⟩);clear ad;go_wp2;go_ret;exact⟨⟨F,rfl,Q.out.1⟩,Q.out.2⟩
    |succ f=>
     have u:b<a.size:=by omega
     have aK:(b:Int)<a.size:=by omega
     obtain⟨ag,X⟩:=J.out;have G:=K X;have n:=K ag;have t:b<a.data.toList.length:=by rw[gI];exact u
     have TT:=K (I' a.data.toList b t);have o:=K (I9 a.data.toList (b+1));obtain⟨c,g⟩:∃c:UInt8,a[b]'u=c:=⟨_,rfl⟩;have ae:(a.data.toList[b]'t)=c:=by rw[<-g];simp;rfl
     rw[ae] at TT;have aq:(c.toNat:Int)<256:=by have:=c.toNat_lt;omega
     have l:c.toNat<256:=c.toNat_lt;generalize aI:bO (a.data.toList.take b)=e at*;clear ag X;obtain⟨C,B,ah,m,i,s⟩|⟨m,i⟩:=ak.out c.toNat l
     .have d0':wr.cell? (U k c.toNat A)=N (V (N (U C 0 A)) (dC c.toNat) B):=az n.out m id;obtain⟨aj,aw,W,af⟩:=LL (w:=wr.drew) (J:=e) (rg:=C) (rc:=B) (rl:=ah) (by exact G.out) (by have:=TT.out;have:=o.out;omega) (λj c g=>by exact az n.out.drew (s j c g) id);rw[i] at aw;have L:η (Y w aj γ/\mq aj w.heap.size (bO a.data.toList)):=K ⟨n.out.drew.trans af λc g=> .inr (by show w.heap.size<=c;have g:c=w.heap.size:=g;omega),W⟩;clear W af s;have M:=xE c.toNat;have R:e+dC c.toNat<=bO a.data.toList:=by have:=TT.out;have:=o.out;omega
      have am:=K (Φ R r.out);have ap:(e:Int)<=(bO a.data.toList:Nat):=by omega
      have ab:e<=bO a.data.toList:=by omega
      have aY:¬bO a.data.toList=e:=by omega
      clear R M;go_wp2_with fail;go_region
      go_wp2;go_roundg f
      case measure=>omega
      have aX:=am.out;exact⟨b+1,by omega,by rw[qq _ ⟨by omega,by omega⟩,TT.out];rfl,by go_num,L⟩
     have ab:e<bO a.data.toList:=by have:=TT.out;have:=o.out;omega
     have ap:(e:Int)<(bO a.data.toList:Nat):=by omega
     obtain⟨⟨a6,aQ⟩,aV⟩:=LJ G.out ab;have L:η (Y w (wr.setCell (U w.heap.size e A) (I bh c.toNat)) γ/\mq (wr.setCell (U w.heap.size e A) (I bh c.toNat)) w.heap.size (bO a.data.toList)):=K ⟨n.out.χ (.inr (Ο _)) _,LQ G.out c⟩;have aE:wrap64 ((e:Int)+1)=((e+1:Nat):Int):=by have:=r.out;rw[qq _ ⟨by omega,by omega⟩];rfl
     have d0':wr.cell? (U k c.toNat A)=N (V A 0 0):=az n.out m id;go_wp2;go_roundg f
     case measure=>omega
     case rel=>exact⟨b+1,by omega,by rw[aE,TT.out,i],by go_num,L⟩
  |succ f=>
   have bm:(b:Int)<5:=by omega
   obtain⟨d,l⟩:∃d,gT[b]? =N d:=⟨_,cT (show b<5 by omega)⟩;obtain⟨aH,aT,aU⟩:=aN.out b d l;have aF:=K (YK a.data.toList b d l);have aM:=K (YJ a.data.toList (k:=b+1) (by omega));have aS:(w.drewN h).cell? (U ai b A)=N (H ⟨#[lQ d]⟩):=aH;have al:=K (WE a (lQ d) (w.drewN h));have aO:=K (show countByte a.data.toList (lQ d)<=a.data.toList.length from List.count_le_length);generalize countByte a.data.toList (lQ d)=z at*;obtain⟨c,g⟩:∃c:BA,c=⟨#[lQ d]⟩:=⟨_,rfl⟩;have bl:c.size=1:=by rw[g];rfl
   have bk:∀aa:0<c.size,(c[0]'aa).toNat=d:=by subst g;exact λ_=>aU
   rw[<-g] at aS al;clear g aH;have aq:(d:Int)<256:=by omega
   have M:=xE d;by_cases au:z=0
   .have a0:((z:Int)!=0)=false:=by simp[au]
    go_wp2_with (go_at_call 470;refine al.out.mono ?_;rintro an aD ⟨rfl,rfl⟩);go_roundg f
    case measure=>omega
    case rel=>exact⟨b+1,any,h,by omega,by go_num,by rw[aF.out,au];simp,rfl,rfl⟩
   have a0:((z:Int)!=0)=true:=by simp[au]
   have aP:=K (show z*(dC d-1)<=60000 from aJ (Nat.mul_le_mul (show z<=10000 from aJ aO.out (by rw[gI];exact a1)) (show dC d-1<=6 by omega)) (by omega));obtain⟨C,B,ah,m,i,s⟩|⟨m,i⟩:=ak.out d aT
   .have d0':(w.drewN h).cell? (U k d A)=N (V (N (U C 0 A)) (dC d) B):=m;go_wp2_with (go_at_call 470;refine al.out.mono ?_;rintro an aD ⟨rfl,rfl⟩);go_quiet (fail)
    go_wp2;go_roundg f
    case measure=>omega
    have aL:(z:Int)*((dC d:Int)-1)=((z*(dC d-1):Nat):Int):=by rw[Int.natCast_mul,Int.natCast_sub M.1];rfl
    have aW:=aF.out;have ba:=aM.out;have bb:=aP.out;have bc:=r.out;refine⟨b+1,true,h+nq,by omega,by go_num,?_,rfl,by first|rfl|rw[World.drewN_drewN]|simp⟩;rw[aL];generalize z*(dC d-1)=a7 at*;rw[qq (a7:Int) ⟨by omega,by omega⟩,qq _ ⟨by omega,by omega⟩,aW]
    go_num
   exfalso;have:b=0\/b=1\/b=2\/b=3\/b=4:=by omega
   rcases this with rfl|rfl|rfl|rfl|rfl<;>(injection l with l;subst l;exact ahN i (by decide))
 go_wp2;go_loopg [5,6,10,11] a.size (λf aA aB a3 _ p=>∃(b:Nat) (any:Bool),f+b=a.size/\a3=I E b/\aA=I E ((a.size:Int)+(bO (a.data.toList.take b):Nat)-b)/\aB=ι any/\p=w)
 case atStart=>exact⟨0,false,by omega,rfl,by simp[bO],rfl,rfl⟩
 obtain⟨b,any,ar,rfl,rfl,rfl,av⟩:=hrel;obtain rfl:=av.symm;cases gk with
 |zero=>
  obtain rfl:b=a.size:=by omega
  have T:(a.size:Int)+(bO (a.data.toList.take a.size):Nat)-a.size=(bO a.data.toList:Nat):=by rw[mo (by rw[gI];exact Ο _)];omega
  rw[T];clear T av;cases any with
  |false=>go_wp2;go_ret;exact⟨⟨a,rfl,by omega⟩,Y.refl w γ⟩
  |true=>
   have mk:(Ej 113 (I E (bO a.data.toList:Nat)) (I E (bO a.data.toList:Nat))).run δ w= .ok (V (N (U w.heap.size 0 A)) (bO a.data.toList) (bO a.data.toList)) (w.alloc (ζ (madeCells (I bh 0).cells (bO a.data.toList)) 5)):=Pg _ r.out;go_wp2;clear mk;have O:=K (LN w (bO a.data.toList));have S:=K (show Y w (w.alloc (ζ (madeCells (I bh 0).cells (bO a.data.toList)) 5)) γ from(Y.refl w γ).alloc _);rw[show(I bh 0).cells=#[I bh 0] from rfl] at O S;generalize w.alloc (ζ (madeCells #[I bh 0] (bO a.data.toList)) 5)=a5 at*;go_loopg [13,14,15] a.size (λf ax ay _ p=>∃b:Nat,f+b=a.size/\ax=I E (bO (a.data.toList.take b):Nat)/\ay=I E b/\η (Y w p γ/\mq p w.heap.size (bO a.data.toList)))
   case atStart=>exact⟨0,by omega,by simp[bO],rfl,K ⟨S.out,O.out⟩⟩
   obtain⟨b,ar,rfl,rfl,J⟩:=hrel;cases gk with
   |zero=>
    obtain rfl:b=a.size:=by omega
    obtain⟨F,ad,aZ⟩:=LR J.out.2;have Q:=K (show F.size<=6*a.size/\Y w wr γ from⟨by rw[ad];have:=(DG a.data.toList).2;rw[gI] at this;exact this,J.out.1⟩);clear ad;go_wp2;go_ret;exact⟨⟨F,rfl,Q.out.1⟩,Q.out.2⟩
   |succ f=>
    have u:b<a.size:=by omega
    have aK:(b:Int)<a.size:=by omega
    obtain⟨ag,X⟩:=J.out;have G:=K X;have n:=K ag;have t:b<a.data.toList.length:=by rw[gI];exact u
    have TT:=K (I' a.data.toList b t);have o:=K (I9 a.data.toList (b+1));obtain⟨c,g⟩:∃c:UInt8,a[b]'u=c:=⟨_,rfl⟩;have ae:(a.data.toList[b]'t)=c:=by rw[<-g];simp;rfl
    rw[ae] at TT;have aq:(c.toNat:Int)<256:=by have:=c.toNat_lt;omega
    have l:c.toNat<256:=c.toNat_lt;generalize aI:bO (a.data.toList.take b)=e at*;clear ag X;obtain⟨C,B,ah,m,i,s⟩|⟨m,i⟩:=ak.out c.toNat l
    .have d0':wr.cell? (U k c.toNat A)=N (V (N (U C 0 A)) (dC c.toNat) B):=az n.out m id;obtain⟨aj,aw,W,af⟩:=LL (w:=wr.drew) (J:=e) (rg:=C) (rc:=B) (rl:=ah) (by exact G.out) (by have:=TT.out;have:=o.out;omega) (λj c g=>by exact az n.out.drew (s j c g) id);rw[i] at aw;have L:η (Y w aj γ/\mq aj w.heap.size (bO a.data.toList)):=K ⟨n.out.drew.trans af λc g=> .inr (by show w.heap.size<=c;have g:c=w.heap.size:=g;omega),W⟩;clear W af s;have M:=xE c.toNat;have R:e+dC c.toNat<=bO a.data.toList:=by have:=TT.out;have:=o.out;omega
     have am:=K (Φ R r.out);have ap:(e:Int)<=(bO a.data.toList:Nat):=by omega
     have ab:e<=bO a.data.toList:=by omega
     have aY:¬bO a.data.toList=e:=by omega
     clear R M;go_wp2_with fail;go_region
     go_wp2;go_roundg f
     case measure=>omega
     have aX:=am.out;exact⟨b+1,by omega,by rw[qq _ ⟨by omega,by omega⟩,TT.out];rfl,by go_num,L⟩
    have ab:e<bO a.data.toList:=by have:=TT.out;have:=o.out;omega
    have ap:(e:Int)<(bO a.data.toList:Nat):=by omega
    obtain⟨⟨a6,aQ⟩,aV⟩:=LJ G.out ab;have L:η (Y w (wr.setCell (U w.heap.size e A) (I bh c.toNat)) γ/\mq (wr.setCell (U w.heap.size e A) (I bh c.toNat)) w.heap.size (bO a.data.toList)):=K ⟨n.out.χ (.inr (Ο _)) _,LQ G.out c⟩;have aE:wrap64 ((e:Int)+1)=((e+1:Nat):Int):=by have:=r.out;rw[qq _ ⟨by omega,by omega⟩];rfl
    have d0':wr.cell? (U k c.toNat A)=N (V A 0 0):=az n.out m id;go_wp2;go_roundg f
    case measure=>omega
    case rel=>exact⟨b+1,by omega,by rw[aE,TT.out,i],by go_num,L⟩
 |succ f=>
  have u:b<a.size:=by omega
  have aK:(b:Int)<a.size:=by omega
  have t:b<a.data.toList.length:=by rw[gI];exact u
  have TT:=K (I' a.data.toList b t);have o:=K (I9 a.data.toList (b+1));have aG:=K (DG (a.data.toList.take b)).1;obtain⟨c,g⟩:∃c:UInt8,a[b]'u=c:=⟨_,rfl⟩;have ae:(a.data.toList[b]'t)=c:=by rw[<-g];simp;rfl
  rw[ae] at TT;have aq:(c.toNat:Int)<256:=by have:=c.toNat_lt;omega
  have l:c.toNat<256:=c.toNat_lt;have M:=K (xE c.toNat);rw[lO,AU (by omega)] at aG;generalize aI:bO (a.data.toList.take b)=e at*;clear av;obtain⟨C,B,ah,m,i,s⟩|⟨m,i⟩:=ak.out c.toNat l
  .clear i s;go_wp2;go_roundg f
   case measure=>omega
   have ao:=TT.out;have bd:=o.out;have be:=r.out;have bf:=M.out;have bi:=aG.out;refine⟨b+1,true,by omega,by go_num,?_,rfl,rfl⟩;rw[ao,qq ((dC c.toNat:Int)-1) ⟨by omega,by omega⟩,qq _ ⟨by omega,by omega⟩]
   congr 1
   omega
  go_wp2;go_roundg f
  case measure=>omega
  have ao:=TT.out;refine⟨b+1,any,by omega,by go_num,?_,rfl,rfl⟩;rw[ao,i]
  congr 1
  omega
theorem acX(c:FY w y k d M)(i:BA)(C:i.size<=10000):ν δ 353 #[π (N (U k 0 A)),H i] w λe O=>(∃j:BA,e=ξ (H j)/\j.size<=6*i.size)/\Y w O (·=k):=by
 have r:w.cell? (U k 0 A)=N (I Λ 0):=by rw[c.blk.cell];rfl
 have s:w.cell? (U k 1 A)=N (I .i32 0):=by rw[c.blk.cell];rfl
 have q:w.frozen? (U k 1 A)=false:=c.blk.frozen _;have n:Y w (w.setCell (U k 1 A) (I .i32 1)) (·=k):=(Y.refl w (·=k)).χ (p:=(U k 1 A)) (.inl rfl) _;have p:=V1 (w:=w.setCell (U k 1 A) (I .i32 1)) (O:=d) (c:=M) (a:=I Λ 0) (b:=I .i32 1) (r:= .nilIface) ((c.blk.χ 1 _).to (by simp[uU])) (λG m f=>az n (c.fS G m f) (λe=>c.ne e.symm))
 have u:=K (abU k (π (N (U k 0 A))) (λb=>Y w b (·=k)/\∃g h l,Fj b w.heap.size k (I Λ 0) (I .i32 1) g h l) w r s q (p.mono λe b ⟨B,J,g,h,l,a⟩=>by
  have F:(w.setCell (U k 1 A) (I .i32 1)).heap.size=w.heap.size:=by simp[eH]
  rw[F] at a;refine⟨B,⟨by rw[a.blk.cell];rfl,by rw[a.blk.cell];rfl,a.blk.frozen _,a.blk.frozen _⟩,n.trans J (λm f=> .inl f),g,h,l,a⟩))
 have z:=K c.blk.lt;clear c r s q n p;go_enter func353,ntmps353;go_wp2_with fail;refine u.out.mono ?_;rintro e Q ⟨rfl,b,⟨kk,g,h,l,a⟩,rfl⟩;have o:Y b (vY b k) (·=k):=((Y.refl b (·=k)).drew.χ (p:=(U k 0 A)) (.inl rfl) _).χ (p:=(U k 1 A)) (.inl rfl) _;have P:(vY b k).cell? (U k 3 A)=N (.iface 472 (π (N (U g 0 A)))):=by have:=((a.blk.drew.χ 0 (I Λ 1)).χ 1 (I .i32 0)).cell 3;unfold vY;rw[this];rfl
 have x:=K (acY (a.τ.keeps o (λm f e=>by have:=z.out;omega)) i C);have t:=K (kk.trans o λm f=> .inl f);clear kk o a;generalize vY b k=R at*;go_wp2_with (go_at_call 468;refine x.out.mono ?_;rintro e S ⟨⟨j,rfl,E⟩,L⟩);go_ret;exact⟨⟨j,rfl,E⟩,t.out.trans L Η⟩
end Go.Proofs.YtdgneofhcenhfaaGreatDoor
